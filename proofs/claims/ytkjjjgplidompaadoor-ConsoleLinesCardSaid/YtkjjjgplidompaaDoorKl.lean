/-
  A step's line: the program's way. Walk.
-/
import Derived.Test.YtkjjjgplidompaaDoorKj
import Derived.Laws.StructEq
import Derived.Lib.AppendIntMem
namespace Go.Proofs.YtkjjjgplidompaaDoor.B
open Go.RowKit Go.Proofs.YtkjjjgplidompaaDoorW.PrintWords Go.Proofs.YtkjjjgplidompaaDoorW.PrintLast Go.Proofs.YtkjjjgplidompaaDoorW.PrintMore
set_option linter.unusedVariables false
set_option linter.unusedSimpArgs false
theorem format_any (n : Int) (h0 : -9223372036854775808 ≤ n) (h1 : n ≤ 9223372036854775807) (w : World) (hT : Tab w) : Calls Tryd.prog 21 #[.int .i64 n, .int .i64 10] w fun e w' => e = .returned (.string (tx (Lib.itoa n))) ∧ Below w.heap.size w w' := by
  refine (Tryd.strconv_FormatInt_10 n h0 h1 w hT).mono ?_
  rintro e w' ⟨rfl, k, os, rfl⟩
  exact ⟨rfl, Lib.below_grow _ w (Nat.le_refl _) k os⟩
theorem itoa_any (n : Int) (h0 : -9223372036854775808 ≤ n) (h1 : n ≤ 9223372036854775807) (w : World) (hT : Tab w) : Calls Tryd.prog 23 #[.int .i64 n] w fun e w' => e = .returned (.string (tx (Lib.itoa n))) ∧ Below w.heap.size w w' := by
  refine (Tryd.strconv_Itoa n h0 h1 w hT).mono ?_
  rintro e w' ⟨rfl, k, os, rfl⟩
  exact ⟨rfl, Lib.below_grow _ w (Nat.le_refl _) k os⟩
set_option maxRecDepth 100000 in
theorem neq_run (s t : LStep) (w : World) : (binOp .neq 26 (stV s) (stV t)).run Tryd.prog w = .ok (.bool (!sameB s t)) w := by
  obtain ⟨a0, a1, a2, a3, a4, a5, a6⟩ := s
  obtain ⟨b0, b1, b2, b3, b4, b5, b6⟩ := t
  unfold stV stC
  dsimp only
  rw [run_neq_struct, run_equalIn_agg w 9999 26 _ _ (by kernel_rfl) (by kernel_rfl)]
  have hd := data_lit a6 b6
  have e4 : ∀ w, (Op.equalIn 9999 24 (.agg #[.int .i64 a2, .int .i64 a3, .int .i64 a4, .int .i64 a5]) (.agg #[.int .i64 b2, .int .i64 b3, .int .i64 b4, .int .i64 b5])).run Tryd.prog w = .ok (a2 == b2 && a3 == b3 && a4 == b4 && a5 == b5) w := by
    intro w
    rw [run_equalIn_agg w 9998 24 _ _ (by kernel_rfl) (by kernel_rfl)]
    cases e2 : (a2 == b2) <;> cases e3 : (a3 == b3) <;> cases e4 : (a4 == b4) <;> cases e5 : (a5 == b5) <;> simp [go_sem, part, Op.eqFields, e2, e3, e4, e5]
  cases e0 : (a0 == b0) <;> cases e1 : (a1 == b1) <;> cases e2 : (a2 == b2 && a3 == b3 && a4 == b4 && a5 == b5) <;> cases e6 : (a6 == b6) <;> simp [go_sem, part, Op.eqFields, e0, e1, e4, e2, hd, e6, sameB]
theorem RowV.of_blk {w : World} {g base : Nat} {e : TypeId} {cs : List Value} (h : w.heap[g]? = some (.cells cs.toArray e (0, 0))) (hb : base ≤ g) (hl : cs.length ≤ maxLen) : RowV w base e 1 (.slice (some ⟨g, 0, none⟩) cs.length cs.length) cs.length cs := by
  refine ⟨by simp, .inr ⟨g, 0, cs.length, rfl, hb, by simp [World.shape?, h], Nat.le_refl _, hl, fun j u hj => ?_, fun j hj => ?_⟩⟩
  · rw [Nat.zero_add, blk_cell h j]
    simpa using hj
  · rw [Nat.zero_add]
    refine ⟨?_, blk_frozen h j⟩
    rw [blk_cell h j]
    simp at hj ⊢
    exact hj
def tl1 : Code → Code
  | .seq _ c => c
  | c => c
noncomputable def lineV (s : LStep) : Value := match lineL s with | some l => .tuple #[.string (tx l), .int .i64 0] | none => .tuple #[.string (tx []), .int .i64 1]
theorem lineV_some {s : LStep} {l : List UInt8} (h : lineL s = some l) : lineV s = .tuple #[.string (tx l), .int .i64 0] := by unfold lineV; rw [h]
theorem lineV_none {s : LStep} (h : lineL s = none) : lineV s = .tuple #[.string (tx []), .int .i64 1] := by unfold lineV; rw [h]
def LinePost (s : LStep) (w : World) (e : Ending) (w' : World) : Prop := e = .returned (lineV s) ∧ Below w.heap.size w w'
def lineF (s : LStep) (g1 : Nat) (v4 : Value) (q : Nat → Value) : Act := { tmps := #[stV s, .pointer (some ⟨g1, 0, none⟩), q 2, q 3, v4, q 5, q 6, q 7, q 8, q 9, q 10, q 11, q 12, q 13, q 14, q 15, q 16, q 17, q 18, q 19, q 20, q 21, q 22, q 23, q 24, q 25, q 26, q 27, q 28, q 29, q 30, q 31, q 32, q 33, q 34, q 35, q 36, q 37, q 38, q 39, q 40, q 41, q 42, q 43, q 44, q 45, q 46, q 47, q 48, q 49, q 50, q 51, q 52, q 53, q 54, q 55, q 56, q 57, q 58, q 59, q 60, q 61, q 62, q 63, q 64, q 65, q 66, q 67, q 68, q 69, q 70, q 71, q 72], defers := [] }
theorem strs_map (D : List (List UInt8)) : (D.map tx).map (fun s : ByteArray => s.data.toList) = D := by
  rw [List.map_map]
  have : (fun s : ByteArray => s.data.toList) ∘ tx = id := by funext x; exact tx_data x
  rw [this, List.map_id]
set_option maxHeartbeats 4000000 in
set_option maxRecDepth 100000 in
theorem line_tail (s : LStep) (w0 : World) (g1 : Nat) (v4 : Value) (rest : Code) (hr : tl1 (tl1 (tl1 (Tryd.f11.body.getD .skip))) = rest) (q : Nat → Value) (w : World) (hg1 : w.heap[g1]? = some (.cells (stC s.kind s.at_ s.id s.stream s.cls s.size s.data) 26 (0, 0))) (base : Nat) (hR : RowV w base 9 1 v4 (rawW s).length (strsV (rawW s))) (hB : Below w0.heap.size w0 w) (hlen : (rawL s).length ≤ 900000) :
    rest.wp Tryd.prog (bodyPost Tryd.prog Tryd.f11 (LinePost s w0)) (lineF s g1 v4 q) w := by
  have e := hr.symm.trans (show tl1 (tl1 (tl1 (Tryd.f11.body.getD .skip))) = .seq _ _ from rfl)
  subst e
  have hpos : 0 < (rawW s).length := by unfold rawW; split <;> (try split) <;> (try split) <;> simp
  obtain ⟨rg, ro, c, rfl, _, hnc, _, hcell⟩ := hR.some_ hpos
  have hrl : rg < w.heap.size := by
    have h0 := hcell 0 ((strsV (rawW s))[0]'(by rw [strsV_length]; exact hpos)) (by rw [List.getElem?_eq_getElem])
    exact World.block_lt_of_cell? w _ h0
  have HJ := Aside0.mk (Tryd.strings_Join rg ro c ((rawW s).map tx) (tx [32]) w (fun j x hx => by
    refine hcell j _ ?_
    rw [List.getElem?_map] at hx
    unfold strsV
    rw [List.getElem?_map]
    cases hh : (rawW s)[j]? with
    | none => rw [hh] at hx; cases hx
    | some y => rw [hh] at hx; simp at hx ⊢; exact hx) hrl (by rw [List.length_map]; have : (rawW s).length ≤ 6 := (by unfold rawW; split <;> (try split) <;> (try split) <;> simp); omega) (by rw [List.length_map]; exact hnc) (by rw [strs_map, tx_data]; show (rawL s).length ≤ _; omega))
  rw [strs_map, tx_data, List.length_map] at HJ
  obtain ⟨L, hL⟩ : ∃ L, L = rawL s := ⟨_, rfl⟩
  have hL2 : Lib.join (rawW s) [32] = L := hL.symm
  rw [hL2] at HJ
  obtain ⟨n, hn⟩ : ∃ n, n = (rawW s).length := ⟨_, rfl⟩
  rw [← hn] at HJ
  rw [← hn]
  rw [← hL] at hlen
  have HG := Aside0.mk hg1
  have HB := Aside0.mk hB
  have HL := Aside0.mk hL
  clear hR hcell hrl hnc hg1 hB hL hL2 hn hpos hr
  unfold lineF
  go_wp2_with fail
  refine HJ.out.mono ?_
  rintro e w3 ⟨rfl, hb3⟩
  have K1 := (hb3.block g1 (blk_ltI HG.out)).trans HG.out
  have HB3 := Aside0.mk (HB.out.trans (hb3.mono HB.out.size))
  clear hb3 HG HB
  have HK1 := Aside0.mk K1
  clear K1
  go_wp2_with fail
  refine (parse_any (tx L) w3 (by rw [tx_size]; omega)).mono ?_
  rintro e w4 ⟨rfl, hb4⟩
  rw [tx_data]
  have K1 := (hb4.block g1 (blk_ltI HK1.out)).trans HK1.out
  have HB4 := Aside0.mk (HB3.out.trans (hb4.mono HB3.out.size))
  have XB := Aside0.mk (fun cs => HB4.out.alloc HB4.out.size (.cells cs 26))
  clear hb4 HB3 HK1
  cases hp : parseL L with
  | none =>
    rw [parV_none hp]
    have HP : Aside0 (lineV s = .tuple #[.string (tx []), .int .i64 1]) := ⟨lineV_none (by
      unfold lineL
      rw [if_neg]
      rw [← HL.out, hp]
      exact fun h => by cases h)⟩
    clear hp
    unfold stV stC stZ
    dsimp only
    go_wp2_with fail
    go_ret2
    exact ⟨by rw [HP.out]; rfl, XB.out _⟩
  | some st =>
    rw [parV_some hp]
    have hne := neq_run st s
    have hcs : ∀ o, (((w4.alloc o).cell? ⟨g1, 0, none⟩ = some (.int .i64 s.kind)) ∧ ((w4.alloc o).cell? ⟨g1, 1, none⟩ = some (.int .i64 s.at_)) ∧ ((w4.alloc o).cell? ⟨g1, 2, none⟩ = some (.int .i64 s.id)) ∧ ((w4.alloc o).cell? ⟨g1, 3, none⟩ = some (.int .i64 s.stream)) ∧ ((w4.alloc o).cell? ⟨g1, 4, none⟩ = some (.int .i64 s.cls)) ∧ ((w4.alloc o).cell? ⟨g1, 5, none⟩ = some (.int .i64 s.size)) ∧ ((w4.alloc o).cell? ⟨g1, 6, none⟩ = some (.string (tx s.data)))) := fun o => (stcells ((Below.heap_alloc w4 o g1 (blk_ltI K1)).trans K1)).1
    have c0 := fun o => (hcs o).1
    have c1 := fun o => (hcs o).2.1
    have c2 := fun o => (hcs o).2.2.1
    have c3 := fun o => (hcs o).2.2.2.1
    have c4 := fun o => (hcs o).2.2.2.2.1
    have c5 := fun o => (hcs o).2.2.2.2.2.1
    have c6 := fun o => (hcs o).2.2.2.2.2.2
    clear hcs
    have HK1 := Aside0.mk K1
    clear K1
    cases hs : sameB st s with
    | true =>
      have HP : Aside0 (lineV s = .tuple #[.string (tx L), .int .i64 0]) := ⟨lineV_some (by
        have e := sameB_eq hs
        rw [e] at hp
        unfold lineL
        rw [← HL.out, if_pos hp])⟩
      rw [hs] at hne
      clear hp hs
      unfold stV stC at hne ⊢
      go_wp2_with fail
      go_ret2
      exact ⟨by rw [HP.out]; rfl, XB.out _⟩
    | false =>
      have HP : Aside0 (lineV s = .tuple #[.string (tx []), .int .i64 1]) := ⟨lineV_none (by
        unfold lineL
        rw [if_neg]
        rw [← HL.out, hp]
        intro h
        have e : st = s := Option.some.inj h
        rw [e, sameB_true] at hs
        cases hs)⟩
      rw [hs] at hne
      clear hp hs
      unfold stV stC at hne ⊢
      go_wp2_with fail
      go_ret2
      exact ⟨by rw [HP.out]; rfl, XB.out _⟩
end Go.Proofs.YtkjjjgplidompaaDoor.B
