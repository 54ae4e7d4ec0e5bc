/- What the law leans on, part 6 of 6: plain laws and walks of this session, and words that a tool of the kit printed for it; what nothing leans on is left out. -/
import Derived.Test.YtgakmnholegbgaaRows
import Derived.Test.YtgakmnholegbgaaProg
import Derived.Below
import Derived.Deep.Draws
import Derived.Deep.AppendLies
import Derived.Maps.AppendAt
import Derived.OwnWalk
import Derived.Laws.BytesArg
import Derived.Laws.MakeOwn
import Derived.Laws.OwnMore
import Derived.Deep.OwnRows
import Derived.Tactics
import Derived.Lib.ConvBytes
import Derived.Laws.Slices
import Derived.WalkKit
import Derived.KernelRfl
import Derived.RowKit3
import Derived.Deep.LoopGhost
import Derived.Deep.QuietTactic
import Derived.BigQuiet
import Derived.WideLaws
import Derived.Deep.DeepCutAuto
import Derived.Deep.CutBlock
import Derived.Deep.RegionHeld3
import Derived.Laws.Rows
import Derived.Lib.AppendStr
import Derived.ArgAppend
import Derived.Laws.IdiomCopy
import Derived.OrdersHeld
import Derived.Laws.BitsLemmas
import Derived.RowKit
import Derived.Laws.StructEq
import Derived.BigRegion
import Derived.WalkMore
import Derived.ScopeJumps
import Derived.Outline
import Derived.Laws.Externs
import Derived.Lib.BitFns
import Derived.Deep.Light
import Derived.Lib.Mul64
import Derived.Lib.Strings
import Derived.Lib.Slices
import Derived.Lib.Small
import Derived.Lib.Walk
import Derived.Laws.Bits64b
import Derived.Lib.UnsafeStr
import Derived.Deep.RegionLaw
import Derived.Deep.RegionWith
import Derived.StillTailTactics
import Derived.Defers
import Derived.Recover
import Derived.Laws.Pointers
import Derived.WalkLawsBesides
import Derived.Laws.DeepStrings4
import Derived.Lib.SmallJoins
import Derived.Deep.Slices
import Derived.Deep.Fields
import Derived.ChangeSame
import Derived.ProofKit
import Derived.OpenShut
import Derived.ShutString
import Derived.ChangeOld
import Derived.SizedLaws
import Derived.Test.YtgakmnholegbgaaQ0e
section
namespace Go.Proofs.Ytgakmnholegbgaa.B
open Go.RowKit Go.Proofs.YtgakmnholegbgaaW.PrintWords Go.Proofs.YtgakmnholegbgaaW.PrintLast Go.Proofs.YtgakmnholegbgaaW.PrintMore
set_option linter.unusedVariables false
set_option linter.unusedSimpArgs false
section
variable {P : Program} (w : World)
theorem row_append_none_step {o : Oper} {a : Act} {K : Act → World → Prop} {Q : Exit → Act → World → Prop} (s x : Operand) (t : TypeId)
  (ho : o.op = .call { callee := .builtin .append, args := #[s, x], argTypes := #[t, t] })
  (e : TypeId) (i : TypeInfo) (ht : P.underlying t = some (.slice e)) (hi : P.info? e = some i)
  (A B : Option Addr) (n c c2 : Nat) (hs : a.eval s = .slice A n c) (hx : a.eval x = .slice B 0 c2) (hn : n ≤ c)
  (h : K (a.put o.dst (.slice A n c)) w) : o.wp P a w K Q := by
 have hr : (Builtin.append_ #[t, t] o.type #[.slice A n c, .slice B 0 c2]).run P w = .ok (.slice A n c) w := by
  have hf : (Builtin.firstCells i.size 0 (.slice B 0 c2)).run P w = .ok #[] w := by
   cases B <;> simp [Builtin.firstCells, loadCells, loadCellsFrom]
  cases A <;> simp [Builtin.append_, run_underlying ht, sizeOf, typeInfo, hi, Builtin.lenOf, hn, hf, storeCells]
 unfold Oper.wp execOp
 simp only [ho, resolve, invoke, builtin, Sem.run_bind, Sem.run_pure, Result.andThen_ok, List.map_toArray, List.map_cons, List.map_nil, hs, hx, hr]
 exact h
theorem row_append_any {o : Oper} {a : Act} {K : Act → World → Prop} {Q : Exit → Act → World → Prop} (s x : Operand) (t : TypeId)
  (ho : o.op = .call { callee := .builtin .append, args := #[s, x], argTypes := #[t, t] })
  (e : TypeId) (i : TypeInfo) (z : Value) (size bytes : Nat) (ht : P.underlying t = some (.slice e)) (hi : P.info? e = some i) (hz : i.zero = some z)
  (hsize : i.size = size) (hby : i.bytes = bytes) (hzs : z.cells.size = size) (hsz : 0 < size)
  (base : Nat) (v : Value) (n : Nat) (olds : List Value) (hs : a.eval s = v) (HR : RowV w base e size v n olds)
  (base2 : Nat) (vN : Value) (m : Nat) (news : List Value) (hx : a.eval x = vN) (HN : RowV w base2 e size vN m news) (h1 : ∀ u ∈ news, u.oneCell' = true)
  (h63 : n + m ≤ maxLen) (hbytes : (n + m) * bytes ≤ 140737488355328) (hbase : base ≤ w.heap.size)
  (h : ∀ v' w', RowV w' base e size v' (n + m) (olds ++ news) → w.grownBy w' v.ownBlock → (∃ A c, v' = .slice A (n + m) c) → K (a.put o.dst v') w') : o.wp P a w K Q := by
 obtain ⟨A, c, hv, hnc, _⟩ := HR.form
 have none_ : ∀ B c2, vN = .slice B 0 c2 → m = 0 → news = [] → o.wp P a w K Q := by
  intro B c2 hv2 hm hnw
  refine row_append_none_step w s x t ho e i ht hi A B n c c2 (hs.trans hv) (hx.trans hv2) hnc ?_
  have := h v w (by rw [hm, hnw, List.append_nil]; exact HR) (World.grownBy.refl w _) ⟨A, c, by rw [hm]; exact hv⟩
  rw [hv] at this
  exact this
 obtain ⟨hl, ⟨hv2, hm⟩ | ⟨g, off, cap, hv2, hb, hsh, hn2, hc2, hx2, hr2⟩⟩ := HN
 ·exact none_ _ _ hv2 hm (List.eq_nil_of_length_eq_zero (by rw [hl, hm, Nat.zero_mul]))
 ·by_cases hm : m = 0
  ·exact none_ _ _ (by rw [hv2, hm]) hm (List.eq_nil_of_length_eq_zero (by rw [hl, hm, Nat.zero_mul]))
  ·refine row_append_step w s x t ho e i z size bytes ht hi hz hsize hby hzs hsz base v n olds hs HR ⟨g, off, none⟩ m cap news (hx.trans hv2) hl (fun j u hj => by rw [Addr.add_lit]; exact hx2 j u hj) h1 h63 hbytes hbase ?_
   intro v' w' hR hG _ _
   obtain ⟨A', c', hv', _⟩ := hR.form
   exact h v' w' hR hG ⟨A', c', hv'⟩
end
theorem repV_one (l : List R5) : ∀ u ∈ repV l, u.oneCell' = true := by
 intro u hu
 simp only [repV, List.mem_flatMap] at hu
 obtain ⟨x, _, hx⟩ := hu
 simp only [repC, List.mem_cons, List.not_mem_nil, or_false] at hx
 rcases hx with rfl | rfl | rfl | rfl | rfl <;> rfl
theorem rfb_load (g4 : Nat) (tm : Array Value) (w : World) (u0 u1 x : Value) (t4 : tm[4]?.getD undef = .pointer (some ⟨g4, 0, none⟩)) (t5 : tm[5]?.getD undef = x) (h : w.heap[g4]? = some (.cells #[u0, u1] 30 (0, 0))) :
  (results Try.f9 tm).run Try.prog w = .ok (.tuple #[.agg #[u0, u1], x]) w := by
 have c0 := blk_cell h 0
 have c1 := blk_cell h 1
 simp only [List.getElem?_toArray, List.getElem?_cons_zero, List.getElem?_cons_succ] at c0 c1
 simp [results, Try.results9, go_sem, t4, t5, c0, c1]
theorem rfset {w : World} {g4 : Nat} {x0 x1 : Value} (h : w.heap[g4]? = some (.cells #[x0, x1] 30 (0, 0))) (y0 y1 : Value) : ((w.setCell ⟨g4, 0, none⟩ y0).setCell ⟨g4, 1, none⟩ y1).heap[g4]? = some (.cells #[y0, y1] 30 (0, 0)) := blk_set (blk_set h 0 y0) 1 y1
structure RW (w0 w : World) (g4 g8 : Nat) (vR vA vP : Value) (l : List P3) (a : Fd) : Prop where
 k4 : w.heap[g4]? = some (.cells #[.slice none 0 0, .slice none 0 0] 30 (0, 0))
 k8 : w.heap[g8]? = some (.cells #[vR, vA] 30 (0, 0))
 rr : RowV w w0.heap.size 58 5 vR a.1.length (repV a.1)
 ra : RowV w w0.heap.size 3 1 vA a.2.1.length (iV a.2.1)
 rp : RowV w w0.heap.size 56 3 vP l.length (partV l)
 bel : Below w0.heap.size w0 w
 w4 : w0.heap.size ≤ g4
 w8 : w0.heap.size ≤ g8
 n48 : g4 ≠ g8
section
variable {w0 w w' w6 : World} {g4 g8 : Nat} {vR vA vP v1 : Value} {l : List P3} {a : Fd}
theorem RW.step (h : RW w0 w g4 g8 vR vA vP l a) (hb : Below w.heap.size w w') : RW w0 w' g4 g8 vR vA vP l a :=
 ⟨(hb.block g4 (blk_lt h.k4)).trans h.k4, (hb.block g8 (blk_lt h.k8)).trans h.k8, h.rr.below hb, h.ra.below hb, h.rp.below hb, h.bel.trans (hb.mono h.bel.size), h.w4, h.w8, h.n48⟩
theorem RW.put0 (h : RW w0 w g4 g8 vR vA vP l a) {X : List R5} (hG : w.grownBy w6 vR.ownBlock) (hR : RowV w6 w0.heap.size 58 5 v1 (a.1.length + X.length) (repV a.1 ++ repV X)) : RW w0 (w6.setCell ⟨g8, 0, none⟩ v1) g4 g8 v1 vA vP l (a.add (X, [], 1)) := by
 have k8 := gb_blkR hG h.rr h.k8 (by decide)
 have k4 := gb_blkR hG h.rr h.k4 (by decide)
 have e_ := blk_set k8 0 v1
 simp only [List.setIfInBounds_toArray, List.set_cons_zero, List.set_cons_succ] at e_
 have ra := h.ra.other h.rr hG (by decide)
 have rp := h.rp.other h.rr hG (by decide)
 refine ⟨(Below.heap_setCell w6 (⟨g8, 0, none⟩ : Addr) _ g4 h.n48).trans k4, e_, ?_, ?_, rp.setCell (p := ⟨g8, 0, none⟩) _ (rp.ne k8 (by decide)), (below_new h.bel hG (fun k hk => (h.rr.lt hk).2.1)).setCell (p := ⟨g8, 0, none⟩) h.w8 _, h.w4, h.w8, h.n48⟩
 ·show RowV _ _ _ _ _ (a.1 ++ X).length (repV (a.1 ++ X))
  rw [repV_append, List.length_append]
  exact hR.setCell (p := ⟨g8, 0, none⟩) _ (hR.ne k8 (by decide))
 ·show RowV _ _ _ _ _ (a.2.1 ++ []).length (iV (a.2.1 ++ []))
  rw [List.append_nil]
  exact ra.setCell (p := ⟨g8, 0, none⟩) _ (ra.ne k8 (by decide))
theorem RW.put1 (h : RW w0 w g4 g8 vR vA vP l a) {X : List Int} (hG : w.grownBy w6 vA.ownBlock) (hR : RowV w6 w0.heap.size 3 1 v1 (a.2.1.length + X.length) (iV a.2.1 ++ iV X)) : RW w0 (w6.setCell ⟨g8, 1, none⟩ v1) g4 g8 vR v1 vP l (a.add ([], X, 1)) := by
 have k8 := gb_blkR hG h.ra h.k8 (by decide)
 have k4 := gb_blkR hG h.ra h.k4 (by decide)
 have e_ := blk_set k8 1 v1
 simp only [List.setIfInBounds_toArray, List.set_cons_zero, List.set_cons_succ] at e_
 have rr := h.rr.other h.ra hG (by decide)
 have rp := h.rp.other h.ra hG (by decide)
 refine ⟨(Below.heap_setCell w6 (⟨g8, 1, none⟩ : Addr) _ g4 h.n48).trans k4, e_, ?_, ?_, rp.setCell (p := ⟨g8, 1, none⟩) _ (rp.ne k8 (by decide)), (below_new h.bel hG (fun k hk => (h.ra.lt hk).2.1)).setCell (p := ⟨g8, 1, none⟩) h.w8 _, h.w4, h.w8, h.n48⟩
 ·show RowV _ _ _ _ _ (a.1 ++ []).length (repV (a.1 ++ []))
  rw [List.append_nil]
  exact rr.setCell (p := ⟨g8, 1, none⟩) _ (rr.ne k8 (by decide))
 ·show RowV _ _ _ _ _ (a.2.1 ++ X).length (iV (a.2.1 ++ X))
  rw [iV_append, List.length_append]
  exact hR.setCell (p := ⟨g8, 1, none⟩) _ (hR.ne k8 (by decide))
end
def RR12 (w : World) (nf : Int) (l : List P3) (vP : Value) (g4 g8 : Nat) (v9 v10 : Value) (wr : World) : Prop := ∃ (i : Nat) (A1 A2 : Option Addr) (c1 c2 : Nat) (a : Fd), v10 = .int .i64 i ∧ v9 = .bool (decide (0 < a.2.2)) ∧ i ≤ l.length ∧ a.1.length ≤ 65536 * i ∧ a.2.1.length ≤ 65536 * i ∧ Aside0 (FdAt nf l i a) ∧
 Aside0 (RW w wr g4 g8 (.slice A1 a.1.length c1) (.slice A2 a.2.1.length c2) vP l a)
theorem dec_pos (k : Nat) : (decide (0 < k + 1)) = true := decide_eq_true (by omega)
set_option maxHeartbeats 16000000 in
set_option maxRecDepth 100000 in
theorem rread12_any_ (s : ByteArray) (near : Int) (w : World) (hs : s.size ≤ 1000000) (hn : I64 near) (hsz : ∀ x ∈ (splitP s).1, x.2.2.size ≤ 1000000) (hpl : (splitP s).1.length ≤ 65536) (CS : ∀ w, Calls Try.prog 12 #[.string s] w (SplitPost s w)) : Calls Try.prog 9 #[.string s, .int .i64 near] w (FeedPost s near w) := by
 obtain ⟨nf, hnf⟩ : ∃ n, n = nearF near := ⟨_, rfl⟩
 have hnI : I64 nf := by rw [hnf]; unfold nearF I64; omega
 have CL := Aside0.mk (fun w => rclampR near 0 1125899906842624 w)
 rw [show cl near 0 1125899906842624 = nf by rw [hnf]; unfold cl nearF; split; omega; split <;> omega] at CL
 obtain ⟨⟨l, E⟩, hSP⟩ : ∃ p, p = splitP s := ⟨_, rfl⟩
 rw [← hSP] at hsz hpl
 dsimp only at hsz hpl
 have HSZ := Aside0.mk hsz
 have HSP := Aside0.mk hSP
 have HNF := Aside0.mk hnf
 replace CS := Aside0.mk CS
 clear hsz hSP hnf
 go_enter Try.func9, Try.ntmps9
 go_wp2_with fail
 have K4 := Aside0.mk (blk_new w (.cells #[.slice none 0 0, .slice none 0 0] 30))
 have HB := Aside0.mk ((Below.refl w.heap.size w).alloc (Nat.le_refl _) (.cells #[.slice none 0 0, .slice none 0 0] 30))
 obtain ⟨g4, hg4⟩ : ∃ g, g = w.heap.size := ⟨_, rfl⟩
 rw [← hg4] at K4 ⊢
 have hwg4 : w.heap.size ≤ g4 := Nat.le_of_eq hg4.symm
 clear hg4
 refine (CS.out _).mono ?_
 rintro e w2 ⟨vP, rfl, hP, hB2⟩
 have hsl := HB.out.size
 rw [← HSP.out] at hP ⊢
 dsimp only at hP ⊢
 have HP := Aside0.mk (hP.low hsl)
 replace K4 := Aside0.mk ((hB2.block g4 (blk_lt K4.out)).trans K4.out)
 replace HB := Aside0.mk (HB.out.trans (hB2.mono hsl))
 clear hP hB2 hsl CS
 obtain ⟨PA, pc, rfl, -, -⟩ := HP.out.form
 by_cases z : E = 0
 ·have q1 : (E != 0) = false := by simp [z]
  have hE : (splitP s).2 = 0 := by rw [← HSP.out]; exact z
  have HE := Aside0.mk hE
  have HSL : Aside0 ((splitP s).1 = l) := ⟨by rw [← HSP.out]⟩
  clear hE z
  go_wp2_with fail
  refine (CL.out _).mono ?_
  rintro e w3 ⟨rfl, hw3⟩
  obtain rfl := hw3.symm
  have hw2s := HB.out.size
  have h4l := blk_lt K4.out
  have HS : Aside0 (RW w (w2.alloc (.cells #[.slice none 0 0, .slice none 0 0] 30)) g4 w2.heap.size (.slice none 0 0) (.slice none 0 0) (.slice PA l.length pc) l fdNil) := ⟨⟨gb_blk (World.grownBy_alloc w2 (.cells #[.slice none 0 0, .slice none 0 0] 30) none) K4.out (fun k hk => by cases hk), blk_new w2 (.cells #[.slice none 0 0, .slice none 0 0] 30), RowV.nil _ _ _ _, RowV.nil _ _ _ _, HP.out.alloc (.cells #[.slice none 0 0, .slice none 0 0] 30), HB.out.alloc HB.out.size (.cells #[.slice none 0 0, .slice none 0 0] 30), hwg4, hw2s, by omega⟩⟩
  obtain ⟨g8, hg8⟩ : ∃ g, g = w2.heap.size := ⟨_, rfl⟩
  rw [← hg8] at HS hw2s
  go_upto_region 6 with fail
  rw [← hg8]
  clear hg8 h4l K4 HP HB CL
  generalize w2.alloc (.cells #[.slice none 0 0, .slice none 0 0] 30) = w3 at *
  have HAt0 := Aside0.mk (FdAt.start nf l)
  go_wp2_with fail
  go_loopw [9, 10, 11, 12, 13, 14, 15, 16] (fun v9 v10 _ _ _ _ _ _ wr => RR12 w nf l (.slice PA l.length pc) g4 g8 v9 v10 wr) (fun _ v _ _ _ _ _ _ _ => l.length - (intOf v).toNat)
  case atStart => exact ⟨0, none, none, 0, 0, fdNil, rfl, rfl, by omega, by simp [fdNil], by simp [fdNil], HAt0, HS⟩
  case round =>
   clear HS HAt0
   obtain ⟨i, A1, A2, cR, cA, a, rfl, rfl, hi, hl1, hl2, HAt, HS⟩ := hrel
   by_cases hlt : i < l.length
   ·have q4 : decide ((i : Int) < (l.length : Int)) = true := decide_eq_true (by omega)
    obtain ⟨⟨x1, x2, x3⟩, hx⟩ : ∃ x, l[i]? = some x := ⟨l[i]'hlt, List.getElem?_eq_getElem hlt⟩
    obtain ⟨pa, po, pc', e_, _, _, _, hxa⟩ := HS.out.rp.some_ (by omega)
    injection e_ with e_ _ e2_
    subst e_
    subst e2_
    have hsx := HSZ.out _ (List.mem_of_getElem? hx)
    obtain ⟨u0, u1, u2⟩ := pV_get hx
    dsimp only at hsx u0 u1 u2
    replace u0 := hxa _ _ u0
    replace u1 := hxa _ _ u1
    replace u2 := hxa _ _ u2
    rw [← Nat.add_assoc] at u1 u2
    have i0 : (0 : Int) ≤ (i : Int) := by omega
    have i1 : (i : Int) < (l.length : Int) := by omega
    have HXI := Aside0.mk hx
    clear hx hxa
    by_cases t205 : x2 = 205
    ·have p2 : (x2 != 205) = false := by simp [t205]
     by_cases t11 : x1 = 11
     ·have p11 : (x1 == 11) = true := by simp [t11]
      have HH := Aside0.mk (And.intro t11 t205)
      clear t205 t11
      have CDD := Aside0.mk (fun w => rccfb_any x3 w hsx)
      go_wp2_with fail
      refine (CDD.out _).mono ?_
      rintro e w4 ⟨vb, L, rfl, hL, hl, hB4⟩
      replace hL := hL.low HS.out.bel.size
      replace HS := Aside0.mk (HS.out.step hB4)
      clear hB4 CDD u0 u1 u2
      obtain ⟨⟨⟨S, Bs, st⟩, n⟩, hC⟩ : ∃ c, c = ccfbP x3 := ⟨_, rfl⟩
      rw [← hC] at hl ⊢
      dsimp only at hl ⊢
      subst hl
      obtain ⟨BA, bc, rfl, -, -⟩ := hL.1.form
      by_cases hz : n = 0
      ·have hE : (ccfbP x3).2 = 0 := by rw [← hC]; exact hz
       obtain ⟨f1, f2, f3⟩ := ccfb_facts hE
       rw [← hC] at f1 f2 f3
       dsimp only at f1 f2 f3
       rw [List.length_map] at f1
       have hoB : fdOne nf (x1, x2, x3) = .ok (repsB (fromP st nf) (L.map (·.1)), [], 1) := by
        rw [fd_one1 HH.out hE, ← hC]
       have hlo := fdOne_le hoB
       dsimp only at hlo
       have HAn := Aside0.mk (HAt.out.next HXI.out hoB)
       have HF2 : Aside0 (∀ x ∈ L, (0 ≤ x.1.2.1 ∧ x.1.2.1 ≤ 65535) ∧ x.1.2.2.length ≤ 4096 ∧ ∀ m ∈ x.1.2.2, 0 ≤ m.2.2 ∧ m.2.2 ≤ 8191) := ⟨fun x hx => f2 x.1 (List.mem_map_of_mem hx)⟩
       have q5 : (n != 0) = false := by simp [hz]
       have HL := Aside0.mk hL
       clear hC hE hoB f2 hL hz HAt
       obtain ⟨X, hX⟩ : ∃ X, X = repsB (fromP st nf) (L.map (·.1)) := ⟨_, rfl⟩
       rw [← hX] at HAn hlo
       have CF : Aside0 (∀ w' : World, BlocksV w' w.heap.size (.slice BA L.length bc) L → Calls Try.prog 23 #[.agg #[.int .u32 S, .slice BA L.length bc, .int .u32 st], .int .i64 nf] w' (RepsPost X w')) := ⟨fun w' h => by rw [hX]; exact rfirst_any w' _ _ S st nf L h f3 hnI f1 HF2.out⟩
       clear hX
       go_upto_region 15 with fail
       have XS := Aside0.mk (HS.out.step ((Below.refl w4.heap.size w4).alloc (Nat.le_refl _) (.cells #[.int .u32 S, .slice BA L.length bc, .int .u32 st] 53)))
       have XB := Aside0.mk (blk_new w4 (.cells #[.int .u32 S, .slice BA L.length bc, .int .u32 st] 53))
       have XHL := Aside0.mk (HL.out.alloc (.cells #[.int .u32 S, .slice BA L.length bc, .int .u32 st] 53))
       obtain ⟨gs, hgs⟩ : ∃ g, g = w4.heap.size := ⟨_, rfl⟩
       rw [← hgs] at XB ⊢
       clear hgs
       generalize w4.alloc (.cells #[.int .u32 S, .slice BA L.length bc, .int .u32 st] 53) = w5 at *
       replace XS := Aside0.mk (XS.out.step (Below.refl w5.heap.size w5).drew)
       replace XHL := Aside0.mk (XHL.out.below (Below.refl w5.heap.size w5).drew)
       replace XB := Aside0.mk (show w5.drew.heap[gs]? = some (.cells #[.int .u32 S, .slice BA L.length bc, .int .u32 st] 53 (0, 0)) from XB.out)
       have d0 := blk_cell (w := w5) XS.out.k8 0
       simp only [List.getElem?_toArray, List.getElem?_cons_zero, List.getElem?_cons_succ] at d0
       have b0 := blk_cell (w := w5) XB.out 0
       have b1 := blk_cell (w := w5) XB.out 1
       have b2 := blk_cell (w := w5) XB.out 2
       simp only [List.getElem?_toArray, List.getElem?_cons_zero, List.getElem?_cons_succ] at b0 b1 b2
       refine start_ (n := 8) (S := fun w' => w'.cell? ⟨g8, 0, none⟩ = some (.slice A1 a.1.length cR) ∧ w'.cell? ⟨gs, 0, none⟩ = some (.int .u32 S) ∧ w'.cell? ⟨gs, 1, none⟩ = some (.slice BA L.length bc) ∧ w'.cell? ⟨gs, 2, none⟩ = some (.int .u32 st)) (ds := [5, 7]) #[false, false, false, false, false, false, false, false] (by kernel_rfl) rfl rfl ⟨d0, b0, b1, b2⟩ (fun hHeld => ?_)
       refine pure_ (i := 0) (N := some 61) (v := ?_) (a' := ?_) #[true, false, false, false, false, false, false, false] rfl rfl (by kernel_rfl) (fun _ _ _ h => h) (Or.inl ⟨by rfl, ?_⟩) ?_ ?_
       rotate_left
       ·intro w'
        go_simp
        with_reducible rfl
       rotate_left
       ·simp only [Act.put, List.setIfInBounds_toArray, List.set_cons_zero, List.set_cons_succ, i64_w, i32_w]
        rfl
       refine pure_ (i := 3) (N := some 64) (v := ?_) (a' := ?_) #[true, false, false, true, false, false, false, false] rfl rfl (by kernel_rfl) (fun _ _ _ h => h) (Or.inl ⟨by rfl, ?_⟩) ?_ ?_
       rotate_left
       ·intro w'
        go_simp
        with_reducible rfl
       rotate_left
       ·simp only [Act.put, List.setIfInBounds_toArray, List.set_cons_zero, List.set_cons_succ, i64_w, i32_w]
        rfl
       refine take_ (i := 1) (N := some 62) (v := ?_) (a' := ?_) #[true, true, false, true, false, false, false, false] rfl rfl (by kernel_rfl) (fun _ _ _ h => h) (Or.inl ⟨by rfl, ?_⟩) hHeld ?_ ?_
       rotate_left
       ·rintro w' ⟨s0, s1, s2, s3⟩
        go_simp
        with_reducible rfl
       rotate_left
       ·simp only [Act.put, List.setIfInBounds_toArray, List.set_cons_zero, List.set_cons_succ, i64_w, i32_w]
        rfl
       refine take_ (i := 2) (N := some 63) (v := ?_) (a' := ?_) #[true, true, true, true, false, false, false, false] rfl rfl (by kernel_rfl) (fun _ _ _ h => h) (Or.inl ⟨by rfl, ?_⟩) hHeld ?_ ?_
       rotate_left
       ·rintro w' ⟨s0, s1, s2, s3⟩
        go_simp
        with_reducible rfl
       rotate_left
       ·simp only [Act.put, List.setIfInBounds_toArray, List.set_cons_zero, List.set_cons_succ, i64_w, i32_w]
        rfl
       refine one_ (i := 4) (N := some 65) #[true, true, true, true, true, false, false, false] rfl rfl (by kernel_rfl) (by decide) (fun K hK => ?_)
       refine goes_ Try.func23 (by kernel_rfl) rfl #[.agg #[.int .u32 S, .slice BA L.length bc, .int .u32 st], .int .i64 nf] (by rfl) rfl rfl (by simp only [List.map_toArray, List.map_cons, List.map_nil]; rfl) ?_
       with_reducible refine (CF.out _ XHL.out).mono ?_
       rintro e wB ⟨vN, rfl, hRN, hBN⟩
       refine ⟨_, rfl, ?_⟩
       obtain ⟨NA, nc, rfl, -, -⟩ := hRN.form
       have XS2 := Aside0.mk (XS.out.step hBN)
       have XB2 := Aside0.mk ((hBN.block gs (blk_lt XB.out)).trans XB.out)
       have HRN := Aside0.mk (hRN.low XS.out.bel.size)
       have e0 := blk_cell XS2.out.k8 0
       simp only [List.getElem?_toArray, List.getElem?_cons_zero, List.getElem?_cons_succ] at e0
       have t0 := blk_cell XB2.out 0
       have t1 := blk_cell XB2.out 1
       have t2 := blk_cell XB2.out 2
       simp only [List.getElem?_toArray, List.getElem?_cons_zero, List.getElem?_cons_succ] at t0 t1 t2
       clear hRN hBN
       refine hK.out _ _ ⟨e0, t0, t1, t2⟩ (fun hHeld => ?_)
       clear hK K
       refine norm_ (a' := ?_) ?_ ?_
       rotate_left
       ·show Act.put _ (some 65) _ = _
        simp only [Act.put, List.setIfInBounds_toArray, List.set_cons_zero, List.set_cons_succ, i64_w, i32_w]
        rfl
       refine last_ (i := 5) (N := some 66) #[true, true, true, true, true, true, false, false] rfl rfl (by kernel_rfl) (by decide) (fun K hK => ?_)
       have HBX : Aside0 (w.heap.size ≤ wB.heap.size) := ⟨XS2.out.bel.size⟩
       refine row_append_any (w := wB) (.tmp 62) (.tmp 65) 23 rfl 58 Try.t58 (.agg #[.int .i64 0, .bool false, .int .i64 0, .bool false, .bool false]) 5 32 Try.underlying23 (by kernel_rfl) rfl rfl rfl (by decide) (by decide) w.heap.size (.slice A1 a.1.length cR) a.1.length (repV a.1) (by rfl) XS2.out.rr w.heap.size (.slice NA X.length nc) X.length (repV X) (by rfl) HRN.out (repV_one X) (by simp only [maxLen]; omega) (by omega) HBX.out ?_
       rintro v1 w6 hR6 hG6 ⟨A6, c6, rfl⟩
       have TN := Aside0.mk (XS2.out.put0 (X := X) hG6 hR6)
       have u0 := blk_cell (gb_blkR hG6 XS2.out.rr XS2.out.k8 (by decide)) 0
       have u0f := blk_frozen (gb_blkR hG6 XS2.out.rr XS2.out.k8 (by decide)) 0
       simp only [List.getElem?_toArray, List.getElem?_cons_zero, List.getElem?_cons_succ] at u0
       clear hR6 hG6
       refine hK.out _ _ ?_
       clear hK K
       refine norm_ (a' := ?_) ?_ ?_
       rotate_left
       ·show Act.put _ (some 66) _ = _
        simp only [Act.put, List.setIfInBounds_toArray, List.set_cons_zero, List.set_cons_succ, i64_w, i32_w]
        rfl
       refine pure_ (i := 6) (N := some 67) (v := ?_) (a' := ?_) #[true, true, true, true, true, true, true, false] rfl rfl (by kernel_rfl) (fun _ _ _ h => h) (Or.inl ⟨by rfl, ?_⟩) ?_ ?_
       rotate_left
       ·intro w'
        go_simp
        with_reducible rfl
       rotate_left
       ·simp only [Act.put, List.setIfInBounds_toArray, List.set_cons_zero, List.set_cons_succ, i64_w, i32_w]
        rfl
       refine last_ (i := 7) (N := none) #[true, true, true, true, true, true, true, true] rfl rfl (by kernel_rfl) (by decide) (fun K hK => ?_)
       refine skip_ (w1 := ?_) (by rfl) rfl ?_ ?_
       rotate_left
       ·go_simp
        rfl
       refine hK.out _ _ ?_
       clear hK K
       refine done_ (by kernel_rfl) ?_
       go_wp2_with fail
       obtain ⟨a', ha⟩ : ∃ a', a' = a.add (X, [], 1) := ⟨_, rfl⟩
       rw [← ha] at HAn TN
       have e1 : a'.1.length = a.1.length + X.length := by rw [ha]; simp [Fd.add]
       have e2 : a'.2.1 = a.2.1 := by rw [ha]; simp [Fd.add]
       have e3 : decide (0 < a'.2.2) = true := by rw [ha]; exact dec_pos _
       refine ⟨⟨i + 1, A6, A2, c6, cA, a', by simp, by rw [e3], by omega, by rw [e1]; omega, by rw [e2]; omega, HAn, ⟨?_⟩⟩, by simp [intOf]; omega⟩
       rw [e2, e1]
       exact TN.out
      ·have hE : (ccfbP x3).2 ≠ 0 := by rw [← hC]; exact hz
       have HFP : Aside0 (feedP s near = (([], []), n)) := ⟨feedP_bad HE.out (by rw [HSL.out, ← HNF.out]; exact HAt.out.bad HXI.out (by rw [fd_bad1 HH.out hE, ← hC]))⟩
       have q5 : (n != 0) = true := by simp [hz]
       clear hC hE hz hL
       have c0 := blk_cell HS.out.k4 0
       have c1 := blk_cell HS.out.k4 1
       simp only [List.getElem?_toArray, List.getElem?_cons_zero, List.getElem?_cons_succ] at c0 c1
       have f0 := blk_frozen HS.out.k4 0
       have f1 := blk_frozen HS.out.k4 1
       have h4l := blk_lt HS.out.k4
       go_wp2_with fail
       (try simp only [Exit.inBlock, Exit.then])
       have z_ := gb_blk (World.grownBy_alloc _ (.cells #[.int .u32 S, .slice BA L.length bc, .int .u32 st] 53) none) (rfset HS.out.k4 (.slice none 0 0) (.slice none 0 0)) (fun k hk => by cases hk)
       refine bodyPost_ret (rfb_load g4 _ _ _ _ _ rfl rfl z_) rfl ?_
       exact FeedPost.bad HFP.out (((HS.out.bel.setCell (p := ⟨g4, 0, none⟩) hwg4 _).setCell (p := ⟨g4, 1, none⟩) hwg4 _).alloc (by have := HS.out.bel.size; simpa [World.setCell] using this) _)
     ·by_cases t15 : x1 = 15
      ·have p11 : (x1 == 11) = false := by simp [t11]
       have p15 : (x1 == 15) = true := by simp [t15]
       have HH := Aside0.mk (And.intro t15 t205)
       clear t205 t11 t15
       have CDD := Aside0.mk (fun w => rtwcc_any x3 w hsx)
       go_wp2_with fail
       refine (CDD.out _).mono ?_
       rintro e w4 ⟨vS, vD, rfl, hS, hD, hB4⟩
       replace hS := hS.low HS.out.bel.size
       replace hD := hD.low HS.out.bel.size
       replace HS := Aside0.mk (HS.out.step hB4)
       clear hB4 CDD u0 u1 u2
       obtain ⟨⟨⟨sd, md, fs, bs, ct, sl, dl⟩, n⟩, hC⟩ : ∃ c, c = twccP x3 := ⟨_, rfl⟩
       rw [← hC] at hS hD ⊢
       dsimp only at hS hD ⊢
       obtain ⟨SA, sc, rfl, -, -⟩ := hS.form
       obtain ⟨DA, dc, rfl, -, -⟩ := hD.form
       by_cases hz : n = 0
       ·have hE : (twccP x3).2 = 0 := by rw [← hC]; exact hz
        obtain ⟨f1, f2, f3, f4⟩ := twcc_facts hE
        rw [← hC] at f1 f2 f3 f4
        dsimp only at f1 f2 f3 f4
        have hoB : fdOne nf (x1, x2, x3) = .ok (reps2 fs (baseP nf bs) sl dl sl.length, [], 1) := by
         rw [fd_one2 HH.out hE, ← hC]
        have hlo := fdOne_le hoB
        dsimp only at hlo
        have HAn := Aside0.mk (HAt.out.next HXI.out hoB)
        have q5 : (n != 0) = false := by simp [hz]
        have HSr := Aside0.mk hS
        have HDr := Aside0.mk hD
        have HF2 := Aside0.mk f2
        clear hC hE hoB f2 hS hD hz HAt
        obtain ⟨X, hX⟩ : ∃ X, X = reps2 fs (baseP nf bs) sl dl sl.length := ⟨_, rfl⟩
        rw [← hX] at HAn hlo
        have CF : Aside0 (∀ w' : World, RowV w' w.heap.size 3 1 (.slice SA sl.length sc) sl.length (iV sl) → RowV w' w.heap.size 3 1 (.slice DA dl.length dc) dl.length (iV dl) → Calls Try.prog 25 #[.agg #[.int .u32 sd, .int .u32 md, .int .i64 fs, .int .i64 bs, .int .i64 ct, .slice SA sl.length sc, .slice DA dl.length dc], .int .i64 nf] w' (RepsPost X w')) := ⟨fun w' h h2 => by rw [hX]; exact rsecond_any w' _ _ _ sd md fs bs ct nf sl dl h h2 HF2.out f3 f4 hnI f1⟩
        clear hX
        go_upto_region 20 with fail
        have XS := Aside0.mk (HS.out.step ((Below.refl w4.heap.size w4).alloc (Nat.le_refl _) (.cells #[.int .u32 sd, .int .u32 md, .int .i64 fs, .int .i64 bs, .int .i64 ct, .slice SA sl.length sc, .slice DA dl.length dc] 63)))
        have XB := Aside0.mk (blk_new w4 (.cells #[.int .u32 sd, .int .u32 md, .int .i64 fs, .int .i64 bs, .int .i64 ct, .slice SA sl.length sc, .slice DA dl.length dc] 63))
        have XHSr := Aside0.mk (HSr.out.alloc (.cells #[.int .u32 sd, .int .u32 md, .int .i64 fs, .int .i64 bs, .int .i64 ct, .slice SA sl.length sc, .slice DA dl.length dc] 63))
        have XHDr := Aside0.mk (HDr.out.alloc (.cells #[.int .u32 sd, .int .u32 md, .int .i64 fs, .int .i64 bs, .int .i64 ct, .slice SA sl.length sc, .slice DA dl.length dc] 63))
        obtain ⟨gs, hgs⟩ : ∃ g, g = w4.heap.size := ⟨_, rfl⟩
        rw [← hgs] at XB ⊢
        clear hgs
        generalize w4.alloc (.cells #[.int .u32 sd, .int .u32 md, .int .i64 fs, .int .i64 bs, .int .i64 ct, .slice SA sl.length sc, .slice DA dl.length dc] 63) = w5 at *
        replace XS := Aside0.mk (XS.out.step (Below.refl w5.heap.size w5).drew)
        replace XHSr := Aside0.mk (XHSr.out.below (Below.refl w5.heap.size w5).drew)
        replace XHDr := Aside0.mk (XHDr.out.below (Below.refl w5.heap.size w5).drew)
        replace XB := Aside0.mk (show w5.drew.heap[gs]? = some (.cells #[.int .u32 sd, .int .u32 md, .int .i64 fs, .int .i64 bs, .int .i64 ct, .slice SA sl.length sc, .slice DA dl.length dc] 63 (0, 0)) from XB.out)
        have d0 := blk_cell (w := w5) XS.out.k8 0
        simp only [List.getElem?_toArray, List.getElem?_cons_zero, List.getElem?_cons_succ] at d0
        have b0 := blk_cell (w := w5) XB.out 0
        have b1 := blk_cell (w := w5) XB.out 1
        have b2 := blk_cell (w := w5) XB.out 2
        have b3 := blk_cell (w := w5) XB.out 3
        have b4 := blk_cell (w := w5) XB.out 4
        have b5 := blk_cell (w := w5) XB.out 5
        have b6 := blk_cell (w := w5) XB.out 6
        simp only [List.getElem?_toArray, List.getElem?_cons_zero, List.getElem?_cons_succ] at b0 b1 b2 b3 b4 b5 b6
        refine start_ (n := 8) (S := fun w' => w'.cell? ⟨g8, 0, none⟩ = some (.slice A1 a.1.length cR) ∧ w'.cell? ⟨gs, 0, none⟩ = some (.int .u32 sd) ∧ w'.cell? ⟨gs, 1, none⟩ = some (.int .u32 md) ∧ w'.cell? ⟨gs, 2, none⟩ = some (.int .i64 fs) ∧ w'.cell? ⟨gs, 3, none⟩ = some (.int .i64 bs) ∧ w'.cell? ⟨gs, 4, none⟩ = some (.int .i64 ct) ∧ w'.cell? ⟨gs, 5, none⟩ = some (.slice SA sl.length sc) ∧ w'.cell? ⟨gs, 6, none⟩ = some (.slice DA dl.length dc)) (ds := [5, 7]) #[false, false, false, false, false, false, false, false] (by kernel_rfl) rfl rfl ⟨d0, b0, b1, b2, b3, b4, b5, b6⟩ (fun hHeld => ?_)
        refine pure_ (i := 0) (N := some 83) (v := ?_) (a' := ?_) #[true, false, false, false, false, false, false, false] rfl rfl (by kernel_rfl) (fun _ _ _ h => h) (Or.inl ⟨by rfl, ?_⟩) ?_ ?_
        rotate_left
        ·intro w'
         go_simp
         with_reducible rfl
        rotate_left
        ·simp only [Act.put, List.setIfInBounds_toArray, List.set_cons_zero, List.set_cons_succ, i64_w, i32_w]
         rfl
        refine pure_ (i := 3) (N := some 86) (v := ?_) (a' := ?_) #[true, false, false, true, false, false, false, false] rfl rfl (by kernel_rfl) (fun _ _ _ h => h) (Or.inl ⟨by rfl, ?_⟩) ?_ ?_
        rotate_left
        ·intro w'
         go_simp
         with_reducible rfl
        rotate_left
        ·simp only [Act.put, List.setIfInBounds_toArray, List.set_cons_zero, List.set_cons_succ, i64_w, i32_w]
         rfl
        refine take_ (i := 1) (N := some 84) (v := ?_) (a' := ?_) #[true, true, false, true, false, false, false, false] rfl rfl (by kernel_rfl) (fun _ _ _ h => h) (Or.inl ⟨by rfl, ?_⟩) hHeld ?_ ?_
        rotate_left
        ·rintro w' ⟨s0, s1, s2, s3, s4, s5, s6, s7⟩
         go_simp
         with_reducible rfl
        rotate_left
        ·simp only [Act.put, List.setIfInBounds_toArray, List.set_cons_zero, List.set_cons_succ, i64_w, i32_w]
         rfl
        refine take_ (i := 2) (N := some 85) (v := ?_) (a' := ?_) #[true, true, true, true, false, false, false, false] rfl rfl (by kernel_rfl) (fun _ _ _ h => h) (Or.inl ⟨by rfl, ?_⟩) hHeld ?_ ?_
        rotate_left
        ·rintro w' ⟨s0, s1, s2, s3, s4, s5, s6, s7⟩
         go_simp
         with_reducible rfl
        rotate_left
        ·simp only [Act.put, List.setIfInBounds_toArray, List.set_cons_zero, List.set_cons_succ, i64_w, i32_w]
         rfl
        refine one_ (i := 4) (N := some 87) #[true, true, true, true, true, false, false, false] rfl rfl (by kernel_rfl) (by decide) (fun K hK => ?_)
        refine goes_ Try.func25 (by kernel_rfl) rfl #[.agg #[.int .u32 sd, .int .u32 md, .int .i64 fs, .int .i64 bs, .int .i64 ct, .slice SA sl.length sc, .slice DA dl.length dc], .int .i64 nf] (by rfl) rfl rfl (by simp only [List.map_toArray, List.map_cons, List.map_nil]; rfl) ?_
        with_reducible refine (CF.out _ XHSr.out XHDr.out).mono ?_
        rintro e wB ⟨vN, rfl, hRN, hBN⟩
        refine ⟨_, rfl, ?_⟩
        obtain ⟨NA, nc, rfl, -, -⟩ := hRN.form
        have XS2 := Aside0.mk (XS.out.step hBN)
        have XB2 := Aside0.mk ((hBN.block gs (blk_lt XB.out)).trans XB.out)
        have HRN := Aside0.mk (hRN.low XS.out.bel.size)
        have e0 := blk_cell XS2.out.k8 0
        simp only [List.getElem?_toArray, List.getElem?_cons_zero, List.getElem?_cons_succ] at e0
        have t0 := blk_cell XB2.out 0
        have t1 := blk_cell XB2.out 1
        have t2 := blk_cell XB2.out 2
        have t3 := blk_cell XB2.out 3
        have t4 := blk_cell XB2.out 4
        have t5 := blk_cell XB2.out 5
        have t6 := blk_cell XB2.out 6
        simp only [List.getElem?_toArray, List.getElem?_cons_zero, List.getElem?_cons_succ] at t0 t1 t2 t3 t4 t5 t6
        clear hRN hBN
        refine hK.out _ _ ⟨e0, t0, t1, t2, t3, t4, t5, t6⟩ (fun hHeld => ?_)
        clear hK K
        refine norm_ (a' := ?_) ?_ ?_
        rotate_left
        ·show Act.put _ (some 87) _ = _
         simp only [Act.put, List.setIfInBounds_toArray, List.set_cons_zero, List.set_cons_succ, i64_w, i32_w]
         rfl
        refine last_ (i := 5) (N := some 88) #[true, true, true, true, true, true, false, false] rfl rfl (by kernel_rfl) (by decide) (fun K hK => ?_)
        have HBX : Aside0 (w.heap.size ≤ wB.heap.size) := ⟨XS2.out.bel.size⟩
        refine row_append_any (w := wB) (.tmp 84) (.tmp 87) 23 rfl 58 Try.t58 (.agg #[.int .i64 0, .bool false, .int .i64 0, .bool false, .bool false]) 5 32 Try.underlying23 (by kernel_rfl) rfl rfl rfl (by decide) (by decide) w.heap.size (.slice A1 a.1.length cR) a.1.length (repV a.1) (by rfl) XS2.out.rr w.heap.size (.slice NA X.length nc) X.length (repV X) (by rfl) HRN.out (repV_one X) (by simp only [maxLen]; omega) (by omega) HBX.out ?_
        rintro v1 w6 hR6 hG6 ⟨A6, c6, rfl⟩
        have TN := Aside0.mk (XS2.out.put0 (X := X) hG6 hR6)
        have u0 := blk_cell (gb_blkR hG6 XS2.out.rr XS2.out.k8 (by decide)) 0
        have u0f := blk_frozen (gb_blkR hG6 XS2.out.rr XS2.out.k8 (by decide)) 0
        simp only [List.getElem?_toArray, List.getElem?_cons_zero, List.getElem?_cons_succ] at u0
        clear hR6 hG6
        refine hK.out _ _ ?_
        clear hK K
        refine norm_ (a' := ?_) ?_ ?_
        rotate_left
        ·show Act.put _ (some 88) _ = _
         simp only [Act.put, List.setIfInBounds_toArray, List.set_cons_zero, List.set_cons_succ, i64_w, i32_w]
         rfl
        refine pure_ (i := 6) (N := some 89) (v := ?_) (a' := ?_) #[true, true, true, true, true, true, true, false] rfl rfl (by kernel_rfl) (fun _ _ _ h => h) (Or.inl ⟨by rfl, ?_⟩) ?_ ?_
        rotate_left
        ·intro w'
         go_simp
         with_reducible rfl
        rotate_left
        ·simp only [Act.put, List.setIfInBounds_toArray, List.set_cons_zero, List.set_cons_succ, i64_w, i32_w]
         rfl
        refine last_ (i := 7) (N := none) #[true, true, true, true, true, true, true, true] rfl rfl (by kernel_rfl) (by decide) (fun K hK => ?_)
        refine skip_ (w1 := ?_) (by rfl) rfl ?_ ?_
        rotate_left
        ·go_simp
         rfl
        refine hK.out _ _ ?_
        clear hK K
        refine done_ (by kernel_rfl) ?_
        go_wp2_with fail
        obtain ⟨a', ha⟩ : ∃ a', a' = a.add (X, [], 1) := ⟨_, rfl⟩
        rw [← ha] at HAn TN
        have e1 : a'.1.length = a.1.length + X.length := by rw [ha]; simp [Fd.add]
        have e2 : a'.2.1 = a.2.1 := by rw [ha]; simp [Fd.add]
        have e3 : decide (0 < a'.2.2) = true := by rw [ha]; exact dec_pos _
        refine ⟨⟨i + 1, A6, A2, c6, cA, a', by simp, by rw [e3], by omega, by rw [e1]; omega, by rw [e2]; omega, HAn, ⟨?_⟩⟩, by simp [intOf]; omega⟩
        rw [e2, e1]
        exact TN.out
       ·have hE : (twccP x3).2 ≠ 0 := by rw [← hC]; exact hz
        have HFP : Aside0 (feedP s near = (([], []), n)) := ⟨feedP_bad HE.out (by rw [HSL.out, ← HNF.out]; exact HAt.out.bad HXI.out (by rw [fd_bad2 HH.out hE, ← hC]))⟩
        have q5 : (n != 0) = true := by simp [hz]
        clear hC hE hz hS hD
        have c0 := blk_cell HS.out.k4 0
        have c1 := blk_cell HS.out.k4 1
        simp only [List.getElem?_toArray, List.getElem?_cons_zero, List.getElem?_cons_succ] at c0 c1
        have f0 := blk_frozen HS.out.k4 0
        have f1 := blk_frozen HS.out.k4 1
        have h4l := blk_lt HS.out.k4
        go_wp2_with fail
        (try simp only [Exit.inBlock, Exit.then])
        have z_ := gb_blk (World.grownBy_alloc _ (.cells #[.int .u32 sd, .int .u32 md, .int .i64 fs, .int .i64 bs, .int .i64 ct, .slice SA sl.length sc, .slice DA dl.length dc] 63) none) (rfset HS.out.k4 (.slice none 0 0) (.slice none 0 0)) (fun k hk => by cases hk)
        refine bodyPost_ret (rfb_load g4 _ _ _ _ _ rfl rfl z_) rfl ?_
        exact FeedPost.bad HFP.out (((HS.out.bel.setCell (p := ⟨g4, 0, none⟩) hwg4 _).setCell (p := ⟨g4, 1, none⟩) hwg4 _).alloc (by have := HS.out.bel.size; simpa [World.setCell] using this) _)
      ·by_cases t1 : x1 = 1
       ·have p11 : (x1 == 11) = false := by simp [t11]
        have p15 : (x1 == 15) = false := by simp [t15]
        have p1 : (x1 == 1) = true := by simp [t1]
        have HH := Aside0.mk (And.intro t1 t205)
        clear t205 t11 t15 t1
        have CDD := Aside0.mk (fun w => rnack_any x3 w)
        go_wp2_with fail
        refine (CDD.out _).mono ?_
        rintro e w4 ⟨vl, rfl, hl, hB4⟩
        replace hl := hl.low HS.out.bel.size
        replace HS := Aside0.mk (HS.out.step hB4)
        clear hB4 CDD u0 u1 u2
        obtain ⟨⟨sd, md, ls, n⟩, hC⟩ : ∃ c, c = nackDec x3 := ⟨_, rfl⟩
        rw [← hC] at hl ⊢
        dsimp only at hl ⊢
        obtain ⟨LA, lc, rfl, -, -⟩ := hl.form
        by_cases hz : n = 0
        ·have hE : (nackDec x3).2.2.2 = 0 := by rw [← hC]; exact hz
         obtain ⟨f1, f2⟩ := nack_facts hE
         rw [← hC] at f1 f2
         dsimp only at f1 f2
         have hoB : fdOne nf (x1, x2, x3) = .ok ([], ls, 1) := by
          rw [fd_one3 HH.out hE, ← hC]
         have HAn := Aside0.mk (HAt.out.next HXI.out hoB)
         have q5 : (n != 0) = false := by simp [hz]
         have HLs := Aside0.mk (show RowV w4 w.heap.size 3 1 (.slice LA ls.length lc) ls.length (iV ls) from hl)
         clear hC hE hoB hl hz HAt
         have XS := Aside0.mk (HS.out.step ((Below.refl w4.heap.size w4).alloc (Nat.le_refl _) (.cells #[.int .u32 sd, .int .u32 md, .slice LA ls.length lc] 83)))
         have XL := Aside0.mk (HLs.out.alloc (.cells #[.int .u32 sd, .int .u32 md, .slice LA ls.length lc] 83))
         have HBX : Aside0 (w.heap.size ≤ (w4.alloc (.cells #[.int .u32 sd, .int .u32 md, .slice LA ls.length lc] 83)).heap.size) := ⟨XS.out.bel.size⟩
         have c1 := blk_cell HS.out.k8 1
         simp only [List.getElem?_toArray, List.getElem?_cons_zero, List.getElem?_cons_succ] at c1
         have h8l := blk_lt HS.out.k8
         go_wp2_with (at_builtin; go_loud (refine wpList_plain rfl fun K_ hK_ => row_append_any (w := w4.alloc (.cells #[.int .u32 sd, .int .u32 md, .slice LA ls.length lc] 83)) (.tmp 106) (.tmp 108) 24 rfl 3 Try.t3 (.int .i64 0) 1 8 Try.underlying24 (by kernel_rfl) rfl rfl rfl (by decide) (by decide) w.heap.size (.slice A2 a.2.1.length cA) a.2.1.length (iV a.2.1) (by rfl) XS.out.ra w.heap.size (.slice LA ls.length lc) ls.length (iV ls) (by rfl) XL.out (iV_one ls) (by simp only [maxLen]; omega) (by omega) HBX.out ?_); rintro v1 w6 hR6 hG6 ⟨A6, c6, rfl⟩; refine hK_ _ _ ?_; have TN := Aside0.mk (XS.out.put1 (X := ls) hG6 hR6); have u1 := blk_cell (gb_blkR hG6 XS.out.ra XS.out.k8 (by decide)) 1; have u1f := blk_frozen (gb_blkR hG6 XS.out.ra XS.out.k8 (by decide)) 1; simp only [List.getElem?_toArray, List.getElem?_cons_zero, List.getElem?_cons_succ] at u1; clear hR6 hG6 c1 hK_)
         obtain ⟨a', ha⟩ : ∃ a', a' = a.add ([], ls, 1) := ⟨_, rfl⟩
         rw [← ha] at HAn TN
         have e1 : a'.1 = a.1 := by rw [ha]; simp [Fd.add]
         have e2 : a'.2.1.length = a.2.1.length + ls.length := by rw [ha]; simp [Fd.add]
         have e3 : decide (0 < a'.2.2) = true := by rw [ha]; exact dec_pos _
         refine ⟨⟨i + 1, A1, A6, cR, c6, a', by simp, by rw [e3], by omega, by rw [e1]; omega, by rw [e2]; omega, HAn, ⟨?_⟩⟩, by simp [intOf]; omega⟩
         rw [e2, e1]
         exact TN.out
        ·have hE : (nackDec x3).2.2.2 ≠ 0 := by rw [← hC]; exact hz
         have HFP : Aside0 (feedP s near = (([], []), n)) := ⟨feedP_bad HE.out (by rw [HSL.out, ← HNF.out]; exact HAt.out.bad HXI.out (by rw [fd_bad3 HH.out hE, ← hC]))⟩
         have q5 : (n != 0) = true := by simp [hz]
         clear hC hE hz hl
         have c0 := blk_cell HS.out.k4 0
         have c1 := blk_cell HS.out.k4 1
         simp only [List.getElem?_toArray, List.getElem?_cons_zero, List.getElem?_cons_succ] at c0 c1
         have f0 := blk_frozen HS.out.k4 0
         have f1 := blk_frozen HS.out.k4 1
         have h4l := blk_lt HS.out.k4
         go_wp2_with fail
         (try simp only [Exit.inBlock, Exit.then])
         have z_ := gb_blk (World.grownBy_alloc _ (.cells #[.int .u32 sd, .int .u32 md, .slice LA ls.length lc] 83) none) (rfset HS.out.k4 (.slice none 0 0) (.slice none 0 0)) (fun k hk => by cases hk)
         refine bodyPost_ret (rfb_load g4 _ _ _ _ _ rfl rfl z_) rfl ?_
         exact FeedPost.bad HFP.out (((HS.out.bel.setCell (p := ⟨g4, 0, none⟩) hwg4 _).setCell (p := ⟨g4, 1, none⟩) hwg4 _).alloc (by have := HS.out.bel.size; simpa [World.setCell] using this) _)
       ·have p11 : (x1 == 11) = false := by simp [t11]
        have p15 : (x1 == 15) = false := by simp [t15]
        have p1 : (x1 == 1) = false := by simp [t1]
        have HAn := Aside0.mk (HAt.out.next HXI.out (fd_none (by dsimp only; omega)))
        rw [Fd.add_nil] at HAn
        clear t11 t15 t1 t205
        go_wp2_with fail
        exact ⟨⟨i + 1, A1, A2, cR, cA, a, by simp, rfl, by omega, by omega, by omega, HAn, HS⟩, by simp [intOf]; omega⟩
    ·have p2 : (x2 != 205) = true := by simp [t205]
     have HAn := Aside0.mk (HAt.out.next HXI.out (fd_none (by dsimp only; omega)))
     rw [Fd.add_nil] at HAn
     clear t205
     go_wp2_with fail
     exact ⟨⟨i + 1, A1, A2, cR, cA, a, by simp, rfl, by omega, by omega, by omega, HAn, HS⟩, by simp [intOf]; omega⟩
   ·have q4 : decide ((i : Int) < (l.length : Int)) = false := decide_eq_false (by omega)
    have hil : i = l.length := by omega
    rw [hil] at HAt
    obtain ⟨r, ag, kd⟩ := a
    dsimp only at hl1 hl2 HS ⊢
    have HFP := Aside0.mk (feedP_ok HE.out (by rw [HSL.out, ← HNF.out]; exact HAt.out.done))
    clear hil HAt
    have c0 := blk_cell HS.out.k4 0
    have c1 := blk_cell HS.out.k4 1
    have d0 := blk_cell HS.out.k8 0
    have d1 := blk_cell HS.out.k8 1
    simp only [List.getElem?_toArray, List.getElem?_cons_zero, List.getElem?_cons_succ] at c0 c1 d0 d1
    have f0 := blk_frozen HS.out.k4 0
    have f1 := blk_frozen HS.out.k4 1
    have hwg8 := HS.out.w8
    by_cases hk0 : kd = 0
    ·have q5 : decide (0 < kd) = false := decide_eq_false (by omega)
     rw [q5]
     replace HFP := Aside0.mk (HFP.out.trans (if_pos hk0))
     clear hk0
     go_wp2_with fail
     (try simp only [Exit.inBlock, Exit.then])
     refine bodyPost_ret (rfb_load g4 _ _ _ _ _ rfl rfl (rfset HS.out.k4 (.slice none 0 0) (.slice none 0 0))) rfl ?_
     exact FeedPost.bad HFP.out ((HS.out.bel.setCell (p := ⟨g4, 0, none⟩) hwg4 _).setCell (p := ⟨g4, 1, none⟩) hwg4 _)
    have q5 : decide (0 < kd) = true := decide_eq_true (by omega)
    rw [q5]
    replace HFP := Aside0.mk (HFP.out.trans (if_neg hk0))
    by_cases hr0 : 4096 < r.length
    ·have q6 : decide (4096 < (r.length : Int)) = true := decide_eq_true (by omega)
     replace HFP := Aside0.mk (HFP.out.trans (if_pos (.inl hr0)))
     clear hr0
     go_wp2_with fail
     (try simp only [Exit.inBlock, Exit.then])
     refine bodyPost_ret (rfb_load g4 _ _ _ _ _ rfl rfl (rfset HS.out.k4 (.slice none 0 0) (.slice none 0 0))) rfl ?_
     exact FeedPost.bad HFP.out ((HS.out.bel.setCell (p := ⟨g4, 0, none⟩) hwg4 _).setCell (p := ⟨g4, 1, none⟩) hwg4 _)
    have q6 : decide (4096 < (r.length : Int)) = false := decide_eq_false (by omega)
    by_cases ha0 : 4096 < ag.length
    ·have q7 : decide (4096 < (ag.length : Int)) = true := decide_eq_true (by omega)
     replace HFP := Aside0.mk (HFP.out.trans (if_pos (.inr ha0)))
     clear ha0
     go_wp2_with fail
     (try simp only [Exit.inBlock, Exit.then])
     refine bodyPost_ret (rfb_load g4 _ _ _ _ _ rfl rfl (rfset HS.out.k4 (.slice none 0 0) (.slice none 0 0))) rfl ?_
     exact FeedPost.bad HFP.out ((HS.out.bel.setCell (p := ⟨g4, 0, none⟩) hwg4 _).setCell (p := ⟨g4, 1, none⟩) hwg4 _)
    have q7 : decide (4096 < (ag.length : Int)) = false := decide_eq_false (by omega)
    replace HFP := Aside0.mk (HFP.out.trans (if_neg (by omega)))
    clear hr0 ha0 hk0
    go_wp2_with fail
    (try simp only [Exit.inBlock, Exit.then])
    refine bodyPost_ret (rfb_load g4 _ _ _ _ _ rfl rfl (rfset HS.out.k4 (.slice A1 r.length cR) (.slice A2 ag.length cA))) rfl ?_
    exact ⟨.slice A1 r.length cR, .slice A2 ag.length cA, by rw [HFP.out]; rfl, by rw [HFP.out]; exact (HS.out.rr.setCell (p := ⟨g4, 0, none⟩) _ (HS.out.rr.ne HS.out.k4 (by decide))).setCell (p := ⟨g4, 1, none⟩) _ (HS.out.rr.ne HS.out.k4 (by decide)), by rw [HFP.out]; exact (HS.out.ra.setCell (p := ⟨g4, 0, none⟩) _ (HS.out.ra.ne HS.out.k4 (by decide))).setCell (p := ⟨g4, 1, none⟩) _ (HS.out.ra.ne HS.out.k4 (by decide)), (HS.out.bel.setCell (p := ⟨g4, 0, none⟩) hwg4 _).setCell (p := ⟨g4, 1, none⟩) hwg4 _⟩
 ·have q1 : (E != 0) = true := by simp [z]
  have hE : feedP s near = (([], []), E) := by rw [feedP_split (by rw [← HSP.out]; exact z), ← HSP.out]
  have HE := Aside0.mk hE
  have c0 := blk_cell K4.out 0
  have c1 := blk_cell K4.out 1
  simp only [List.getElem?_toArray, List.getElem?_cons_zero, List.getElem?_cons_succ] at c0 c1
  have f0 := blk_frozen K4.out 0
  have f1 := blk_frozen K4.out 1
  clear hE z
  go_wp2_with fail
  refine bodyPost_ret (rfb_load g4 _ _ _ _ _ rfl rfl (rfset K4.out (.slice none 0 0) (.slice none 0 0))) rfl ?_
  exact FeedPost.bad HE.out ((HB.out.setCell (p := ⟨g4, 0, none⟩) hwg4 _).setCell (p := ⟨g4, 1, none⟩) hwg4 _)
end Go.Proofs.Ytgakmnholegbgaa.B
end
section
namespace Go.Proofs.Ytgakmnholegbgaa.B
open Go.RowKit Go.Proofs.YtgakmnholegbgaaW.PrintWords
abbrev tx (L : List UInt8) : ByteArray := ⟨L.toArray⟩
theorem tx_size (L : List UInt8) : (tx L).size = L.length := by show L.toArray.size = _; simp
theorem tx_of (s : ByteArray) : tx s.data.toList = s := by cases s; simp [tx]
theorem byteN_tx (L : List UInt8) (i : Nat) : byteN (tx L) i = (L.getD i 0).toNat := by
 unfold byteN bt
 simp only [Int.toNat_natCast, tx_size]
 by_cases h : i < L.length
 ·rw [dif_pos h]
  have : (tx L)[i]'(by rw [tx_size]; exact h) = L[i] := by
   show L.toArray[i] = _
   simp
  rw [this, List.getD_eq_getElem?_getD, List.getElem?_eq_getElem h]
  simp
 ·rw [dif_neg h, List.getD_eq_getElem?_getD, List.getElem?_eq_none (by omega)]
  rfl
theorem tx_extract (L : List UInt8) (a b : Nat) : (tx L).extract a b = tx ((L.take b).drop a) := by
 apply ByteArray.ext
 rw [ByteArray.data_extract]
 show L.toArray.extract a b = _
 apply Array.ext'
 simp [List.drop_take]
theorem u8_nat (n : Nat) (h : n < 256) : (UInt8.ofNat n).toNat = n := by rw [UInt8.toNat_ofNat']; omega
theorem part_first (c t n : Nat) (B P T : List UInt8) (hc : c < 32) (ht1 : 192 ≤ t) (ht2 : t ≤ 223) (hn : n ≤ 65535) (hB : B.length + P.length = 4 * n) (p : Nat) (hp : p ≤ 1) (h0 : p = 0 → P = [])
  (h1 : p = 1 → T = [] ∧ 4 ≤ P.length ∧ P.length % 4 = 0 ∧ P.length < 256 ∧ P.getD (P.length - 1) 0 = UInt8.ofNat P.length) :
  partErr (tx (UInt8.ofNat (128 + 32 * p + c) :: UInt8.ofNat t :: UInt8.ofNat (n / 256) :: UInt8.ofNat (n % 256) :: (B ++ P ++ T))) = 0 ∧
   partOf (tx (UInt8.ofNat (128 + 32 * p + c) :: UInt8.ofNat t :: UInt8.ofNat (n / 256) :: UInt8.ofNat (n % 256) :: (B ++ P ++ T))) = ((c : Int), (t : Int), tx B) ∧
   restOf (tx (UInt8.ofNat (128 + 32 * p + c) :: UInt8.ofNat t :: UInt8.ofNat (n / 256) :: UInt8.ofNat (n % 256) :: (B ++ P ++ T))) = tx T ∧
   partSize (tx (UInt8.ofNat (128 + 32 * p + c) :: UInt8.ofNat t :: UInt8.ofNat (n / 256) :: UInt8.ofNat (n % 256) :: (B ++ P ++ T))) = 4 + 4 * n := by
 obtain ⟨L, hL⟩ : ∃ L, L = UInt8.ofNat (128 + 32 * p + c) :: UInt8.ofNat t :: UInt8.ofNat (n / 256) :: UInt8.ofNat (n % 256) :: (B ++ P ++ T) := ⟨_, rfl⟩
 rw [← hL]
 have e0 : byteN (tx L) 0 = 128 + 32 * p + c := by rw [byteN_tx, hL]; exact u8_nat _ (by omega)
 have e1 : byteN (tx L) 1 = t := by rw [byteN_tx, hL]; exact u8_nat _ (by omega)
 have e2 : byteN (tx L) 2 = n / 256 := by rw [byteN_tx, hL]; exact u8_nat _ (by omega)
 have e3 : byteN (tx L) 3 = n % 256 := by rw [byteN_tx, hL]; exact u8_nat _ (by omega)
 have hlen : L.length = 4 + 4 * n + T.length := by
  rw [hL]
  simp only [List.length_cons, List.length_append]
  omega
 have hps : partSize (tx L) = 4 + 4 * n := by unfold partSize; rw [e2, e3]; omega
 have hsz := tx_size L
 obtain ⟨S, hS⟩ : ∃ S, S = (tx L).size := ⟨_, rfl⟩
 rw [← hS] at hsz
 have hpad : p = 1 → padN (tx L) = P.length := by
  intro hp1
  obtain ⟨_, q2, _, q4, q5⟩ := h1 hp1
  unfold padN
  rw [hps, if_pos (by omega), byteN_tx, hL]
  have e : 4 + 4 * n - 1 = (B.length + (P.length - 1)) + 1 + 1 + 1 + 1 := by omega
  rw [e]
  simp only [List.getD_cons_succ]
  rw [List.getD_eq_getElem?_getD, List.append_assoc, List.getElem?_append_right (by omega), Nat.add_sub_cancel_left, List.getElem?_append_left (by omega), ← List.getD_eq_getElem?_getD, q5]
  exact u8_nat _ q4
 refine ⟨?_, ?_, ?_, hps⟩
 ·unfold partErr
  rw [hps, e0, e1, ← hS, if_neg (by omega), if_neg (by omega), if_neg (by omega), if_neg (by omega), if_neg]
  rintro ⟨z1, z2⟩
  have hp1 : p = 1 := by omega
  obtain ⟨q1, q2, q3, q4, q5⟩ := h1 hp1
  rw [hpad hp1] at z2
  have : T.length = 0 := by rw [q1]; rfl
  exact z2 ⟨by omega, q2, q3, by omega⟩
 ·unfold partOf
  rw [e0, e1]
  have hb : partBody (tx L) = tx B := by
   unfold partBody
   rw [hps, e0]
   have key : (if (128 + 32 * p + c) / 32 % 2 = 1 then 4 + 4 * n - padN (tx L) else 4 + 4 * n) = 4 + B.length := by
    by_cases hp1 : p = 1
    ·rw [if_pos (by omega), hpad hp1]
     omega
    ·have hp0 : p = 0 := by omega
     rw [if_neg (by omega), ← hB, h0 hp0]
     simp
   rw [key, tx_extract, hL]
   have e : 4 + B.length = B.length + 1 + 1 + 1 + 1 := by omega
   rw [e]
   simp only [List.take_succ_cons, List.drop_succ_cons, List.drop_zero]
   rw [List.append_assoc, List.take_left']
   rfl
  rw [hb]
  refine Prod.ext ?_ (Prod.ext rfl rfl)
  show (((128 + 32 * p + c) % 32 : Nat) : Int) = c
  omega
 ·unfold restOf
  rw [hps, ← hS, hsz, tx_extract, List.take_length, hL]
  have e : 4 + 4 * n = (B ++ P).length + 1 + 1 + 1 + 1 := by rw [List.length_append]; omega
  rw [e]
  simp only [List.drop_succ_cons]
  rw [List.drop_left']
  rfl
theorem part_ok (x : P3) (T : List UInt8) (h : partOk x = true) : partErr (tx (partBytes x ++ T)) = 0 ∧ partOf (tx (partBytes x ++ T)) = x ∧ restOf (tx (partBytes x ++ T)) = tx T := by
 obtain ⟨x1, x2, x3⟩ := x
 obtain ⟨a1, a2, a3, a4, a5, a6⟩ := (partOk_iff _).1 h
 dsimp only at a1 a2 a3 a4 a5 a6
 obtain ⟨c, rfl⟩ := Int.eq_ofNat_of_zero_le a1
 obtain ⟨t, rfl⟩ := Int.eq_ofNat_of_zero_le (show 0 ≤ x2 by omega)
 have hl : x3.data.toList.length = x3.size := by simp
 have := part_first c t (x3.size / 4) x3.data.toList [] T (by omega) (by omega) (by omega) (by omega) (by rw [hl, List.length_nil]; omega) 0 (by omega) (fun _ => rfl) (fun h => by omega)
 rw [List.append_nil, tx_of] at this
 have e : partBytes (((c : Int), (t : Int), x3) : P3) ++ T = UInt8.ofNat (128 + 32 * 0 + c) :: UInt8.ofNat t :: UInt8.ofNat (x3.size / 4 / 256) :: UInt8.ofNat (x3.size / 4 % 256) :: (x3.data.toList ++ T) := rfl
 rw [e]
 exact ⟨this.1, this.2.1, this.2.2.1⟩
theorem splitR_part (x : P3) (T : List UInt8) (h : partOk x = true) : splitR (tx (partBytes x ++ T)) = (splitR (tx T)).map (x :: ·) := by
 obtain ⟨h1, h2, h3⟩ := part_ok x T h
 rw [splitR_go _ h1, h2, h3]
 rw [tx_size, List.length_append, partBytes_length]
 simp only [sizeP]
 omega
theorem splitR_all (l : List P3) (T : List UInt8) (h : ∀ x ∈ l, partOk x = true) : splitR (tx (allBytes l ++ T)) = (splitR (tx T)).map (l ++ ·) := by
 induction l with
 | nil =>
  simp only [allBytes, List.flatMap_nil, List.nil_append]
  cases splitR (tx T) <;> rfl
 | cons x l ih =>
  have e : allBytes (x :: l) ++ T = partBytes x ++ (allBytes l ++ T) := by simp [allBytes]
  rw [e, splitR_part x _ (h x List.mem_cons_self), ih (fun y hy => h y (List.mem_cons_of_mem _ hy))]
  cases splitR (tx T) <;> rfl
theorem splitR_empty : splitR (tx []) = .ok [] := splitR_nil rfl
theorem split_join (l : List P3) (t : ByteArray) (h : joinP l = (t, 0)) : splitP t = (l, 0) ∧ t = tx (allBytes l) ∧ (∀ x ∈ l, partOk x = true) ∧ l ≠ [] ∧ total l ≤ 65536 := by
 unfold joinP at h
 split at h
 ·cases h
 ·rename_i h0
  split at h
  ·cases h
  ·rename_i h1
   split at h
   ·cases h
   ·rename_i h2
    have ht : t = tx (allBytes l) := (congrArg Prod.fst h).symm
    have hok : ∀ x ∈ l, partOk x = true := List.all_eq_true.1 (by simpa using h1)
    have hsz : t.size = total l := by rw [ht, tx_size, allBytes_length]
    have hpos : 0 < total l := by
     cases l with
     | nil => exact absurd rfl h0
     | cons x m => rw [total_cons]; simp only [sizeP]; omega
    refine ⟨splitP_ok (by omega) (by omega) ?_, ht, hok, h0, by omega⟩
    have := splitR_all l [] hok
    rw [List.append_nil, splitR_empty] at this
    rw [ht, this]
    show Except.ok _ = Except.ok _
    simp
theorem partOf_ok {s : ByteArray} (h : partErr s = 0) : partOk (partOf s) = true ∧ sizeP (partOf s) ≤ partSize s ∧ partSize s ≤ s.size ∧
  (sizeP (partOf s) = partSize s ∨ (partSize s = s.size ∧ partSize s ≤ sizeP (partOf s) + 255 ∧ sizeP (partOf s) < partSize s)) := by
 obtain ⟨hs, _⟩ := partErr_size h
 have b0 := byteN_lt s 0
 have b1 := byteN_lt s 1
 have b2 := byteN_lt s 2
 have b3 := byteN_lt s 3
 have hp : partSize s = 4 + 4 * (byteN s 2 * 256 + byteN s 3) := rfl
 obtain ⟨V0, hV0⟩ : ∃ V, V = byteN s 0 := ⟨_, rfl⟩
 obtain ⟨V1, hV1⟩ : ∃ V, V = byteN s 1 := ⟨_, rfl⟩
 obtain ⟨W, hW⟩ : ∃ V, V = byteN s 2 * 256 + byteN s 3 := ⟨_, rfl⟩
 have hWl : W ≤ 65535 := by omega
 rw [← hW] at hp
 obtain ⟨Q, hQ⟩ : ∃ V, V = padN s := ⟨_, rfl⟩
 have hQl : Q < 256 := by
  rw [hQ]
  unfold padN
  split
  ·exact byteN_lt _ _
  ·omega
 unfold partErr at h
 rw [← hV0, ← hV1, ← hQ, hp] at h
 have hbs : (partBody s).size = (if V0 / 32 % 2 = 1 then 4 + 4 * W - Q else 4 + 4 * W) - 4 := by
  unfold partBody
  rw [← hV0, hp, ← hQ, ByteArray.size_extract]
  split <;> omega
 have hof : partOf s = (((V0 % 32 : Nat) : Int), ((V1 : Nat) : Int), partBody s) := by unfold partOf; rw [hV0, hV1]
 rw [hof, hp]
 simp only [sizeP, partOk_iff]
 obtain ⟨Z, hZ⟩ : ∃ Z, Z = (partBody s).size := ⟨_, rfl⟩
 rw [← hZ] at hbs ⊢
 rw [hp] at hs
 obtain ⟨S, hS⟩ : ∃ S, S = s.size := ⟨_, rfl⟩
 rw [← hS] at h hs ⊢
 clear hZ hS hof hp hQ hV0 hV1 hW b0 b1 b2 b3
 split at h
 ·cases h
 split at h
 ·cases h
 split at h
 ·cases h
 split at h
 ·cases h
 split at h
 ·cases h
 rename_i c1 c2 c3 c4 c5
 by_cases hpd : V0 / 32 % 2 = 1
 ·have c6 : 4 + 4 * W = S ∧ 4 ≤ Q ∧ Q % 4 = 0 ∧ Q ≤ 4 + 4 * W - 4 := Classical.byContradiction fun hh => c5 ⟨hpd, hh⟩
  rw [if_pos hpd] at hbs
  omega
 ·rw [if_neg hpd] at hbs
  omega
theorem splitR_ok : ∀ (n : Nat) (s : ByteArray) (l : List P3), s.size = n → splitR s = .ok l → (∀ x ∈ l, partOk x = true) ∧ total l ≤ s.size ∧ s.size ≤ total l + 255 ∧ (l = [] → s.size = 0) := by
 intro n
 induction n using Nat.strongRecOn with
 | _ n ih =>
  intro s l hn h
  by_cases h0 : s.size = 0
  ·rw [splitR_nil h0] at h
   injection h with h
   subst h
   exact ⟨fun x hx => by simp at hx, by simp [total], by omega, fun _ => h0⟩
  ·by_cases he : partErr s = 0
   ·rw [splitR_go h0 he] at h
    obtain ⟨p1, p2, p3, p4⟩ := partOf_ok he
    have hg := partSize_ge s
    have hr := restOf_size s
    cases hm : splitR (restOf s) with
    | error e => rw [hm] at h; cases h
    | ok m =>
     rw [hm] at h
     have hl : l = partOf s :: m := by injection h with h; exact h.symm
     subst hl
     obtain ⟨i1, i2, i3, i4⟩ := ih _ (by omega) (restOf s) m rfl hm
     refine ⟨?_, ?_, ?_, fun hh => by cases hh⟩
     ·intro x hx
      rcases List.mem_cons.1 hx with rfl | hx
      ·exact p1
      ·exact i1 x hx
     ·rw [total_cons]; omega
     ·rw [total_cons]
      rcases p4 with p4 | ⟨p4, p5, p6⟩
      ·omega
      ·have hz : (restOf s).size = 0 := by omega
       have hm0 : m = [] := by
        rw [splitR_nil hz] at hm
        injection hm with hm
        exact hm.symm
       subst hm0
       simp only [total_nil]
       omega
   ·rw [splitR_bad h0 he] at h
    cases h
theorem splitR_err : ∀ (n : Nat) (s : ByteArray), s.size = n → splitR s = .error 0 → False := by
 intro n
 induction n using Nat.strongRecOn with
 | _ n ih =>
  intro s hn h
  by_cases h0 : s.size = 0
  ·rw [splitR_nil h0] at h
   cases h
  ·by_cases he : partErr s = 0
   ·rw [splitR_go h0 he] at h
    obtain ⟨p1, p2, p3, p4⟩ := partOf_ok he
    have hg := partSize_ge s
    have hr := restOf_size s
    cases hm : splitR (restOf s) with
    | error e =>
     rw [hm] at h
     have : e = 0 := by injection h
     subst this
     exact ih _ (by omega) (restOf s) rfl hm
    | ok m => rw [hm] at h; cases h
   ·rw [splitR_bad h0 he] at h
    injection h with h
    exact he h
theorem splitP_inv {s : ByteArray} {l : List P3} (h : splitP s = (l, 0)) : s.size ≤ 65536 ∧ ¬ s.size = 0 ∧ splitR s = .ok l := by
 unfold splitP at h
 split at h
 ·injection h with _ h; cases h
 split at h
 ·injection h with _ h; cases h
 refine ⟨by omega, by assumption, ?_⟩
 cases hr : splitR s with
 | ok m =>
  rw [hr] at h
  injection h with h
  rw [h]
 | error e =>
  rw [hr] at h
  dsimp only at h
  injection h with h1 h2
  subst h2
  exact (splitR_err _ s rfl hr).elim
theorem splitP_fst {s : ByteArray} (h : (splitP s).2 ≠ 0) : (splitP s).1 = [] := by
 by_cases h1 : 65536 < s.size
 ·rw [splitP_long h1]
 by_cases h2 : s.size = 0
 ·rw [splitP_none h2]
 cases hr : splitR s with
 | ok m => rw [splitP_ok (by omega) h2 hr] at h; exact absurd rfl h
 | error e => rw [splitP_bad (by omega) h2 hr]
end Go.Proofs.Ytgakmnholegbgaa.B
end
section
namespace Go.Proofs.Ytgakmnholegbgaa.B
open Go.RowKit Go.Proofs.YtgakmnholegbgaaW.PrintWords Go.Proofs.YtgakmnholegbgaaW.PrintLast Go.Proofs.YtgakmnholegbgaaW.PrintMore
set_option linter.unusedVariables false
set_option linter.unusedSimpArgs false
theorem split_total (s : ByteArray) : total (splitP s).1 ≤ 65536 := by
 by_cases h : (splitP s).2 = 0
 ·obtain ⟨h1, h2, h3⟩ := splitP_inv (l := (splitP s).1) (by rw [← h])
  obtain ⟨_, h4, _⟩ := splitR_ok _ s _ rfl h3
  omega
 ·rw [splitP_fst h]
  simp [total]
theorem split_lenF (s : ByteArray) : (splitP s).1.length ≤ 65536 := by
 have h := split_total s
 have := sumB_total (splitP s).1
 omega
theorem mem_total {l : List P3} {x : P3} (h : x ∈ l) : sizeP x ≤ total l := by
 induction l with
 | nil => simp at h
 | cons y l ih =>
  rw [total_cons]
  rcases List.mem_cons.1 h with rfl | h
  ·omega
  ·have := ih h
   omega
theorem split_sizes (s : ByteArray) : ∀ x ∈ (splitP s).1, x.2.2.size ≤ 1000000 := fun x hx => by
 have h := mem_total hx
 have h2 := split_total s
 unfold sizeP at h
 omega
theorem rsplit_anyF (s : ByteArray) (w : World) (h : s.size ≤ 1000000) : Calls Try.prog 12 #[.string s] w (SplitPost s w) := by
 by_cases h1 : 65536 < s.size
 ·have d1 : decide (65536 < (s.size : Int)) = true := decide_eq_true (by omega)
  have HE := Aside0.mk (splitP_long h1)
  go_enter Try.func12, Try.ntmps12
  go_wp2_with fail
  go_ret2
  exact ⟨_, by rw [HE.out]; rfl, by rw [HE.out]; exact RowV.nil _ _ _ _, Below.refl _ _⟩
 ·by_cases h2 : s.size = 0
  ·have HE := Aside0.mk (splitP_none h2)
   have d1 : decide (65536 < (s.size : Int)) = false := decide_eq_false (by omega)
   have d2 : s.toList.isEmpty = true := by rw [str_empty_]; exact decide_eq_true h2
   go_enter Try.func12, Try.ntmps12
   go_wp2_with fail
   go_ret2
   exact ⟨_, by rw [HE.out]; rfl, by rw [HE.out]; exact RowV.nil _ _ _ _, Below.refl _ _⟩
  ·exact rsplit_some s w h2 (by omega)
theorem read_any_F (s : ByteArray) (near : Int) (w : World) (hs : s.size ≤ 1000000) (hn : I64 near) : Calls Try.prog 8 #[.string s, .int .i64 near] w (FeedPost s near w) := read_any_ s near w hs hn (split_sizes s) (split_lenF s)
theorem rread12_any (s : ByteArray) (near : Int) (w : World) (hs : s.size ≤ 1000000) (hn : I64 near) : Calls Try.prog 9 #[.string s, .int .i64 near] w (FeedPost s near w) := rread12_any_ s near w hs hn (split_sizes s) (split_lenF s) (fun w => rsplit_anyF s w hs)
end Go.Proofs.Ytgakmnholegbgaa.B
end
section
namespace Go.Proofs.Ytgakmnholegbgaa.B
open Go.RowKit Go.Proofs.YtgakmnholegbgaaW.PrintWords Go.Proofs.YtgakmnholegbgaaW.PrintLast Go.Proofs.YtgakmnholegbgaaW.PrintMore
set_option linter.unusedVariables false
set_option linter.unusedSimpArgs false
theorem repV_get {l : List R5} {i : Nat} {x : R5} (h : l[i]? = some x) : (repV l)[i * 5]? = some (.int .i64 x.1) ∧ (repV l)[i * 5 + 1]? = some (.bool x.2.1) ∧ (repV l)[i * 5 + 2]? = some (.int .i64 x.2.2.1) ∧ (repV l)[i * 5 + 3]? = some (.bool x.2.2.2.1) ∧ (repV l)[i * 5 + 4]? = some (.bool x.2.2.2.2) := by
 obtain ⟨hi, rfl⟩ := List.getElem?_eq_some_iff.1 h
 have e : repV l = repV (l.take i) ++ (repC l[i] ++ repV (l.drop (i + 1))) := by
  conv => lhs; rw [← List.take_append_drop i l, List.drop_eq_getElem_cons hi]
  rw [repV_append]
  rfl
 have hl : (repV (l.take i)).length = i * 5 := by rw [repV_length, List.length_take, Nat.min_eq_left (Nat.le_of_lt hi)]
 refine ⟨?_, ?_, ?_, ?_, ?_⟩ <;> rw [e, List.getElem?_append_right (by omega), hl]
 ·rw [Nat.sub_self]; rfl
 all_goals (rw [Nat.add_sub_cancel_left]; rfl)
set_option maxHeartbeats 4000000 in
theorem reports_same (w : World) (b1 b2 : Nat) (v1 v2 : Value) (l : List R5) (h1 : RowV w b1 58 5 v1 l.length (repV l)) (h2 : RowV w b2 58 5 v2 l.length (repV l)) : Calls Try.prog 10 #[v1, v2] w fun e w' => e = .returned (.bool true) ∧ Below w.heap.size w w' := by
 obtain ⟨A1, c1, rfl, -, hc1⟩ := h1.form
 obtain ⟨A2, c2, rfl, -, hc2⟩ := h2.form
 have hlm : l.length ≤ 9223372036854775807 := by
  obtain ⟨_, _, _, h3, h4⟩ := h1.form
  unfold maxLen at h4
  omega
 have H1 := Aside0.mk h1
 have H2 := Aside0.mk h2
 clear h1 h2 hc1 hc2
 go_enter Try.func10, Try.ntmps10
 go_wp2_with fail
 go_loopw [5, 6, 7] (fun v5 _ _ wr => ∃ i : Nat, v5 = .int .i64 i ∧ i ≤ l.length ∧ Aside0 (Below w.heap.size w wr)) (fun v _ _ _ => l.length - (intOf v).toNat)
 case atStart => exact ⟨0, rfl, by omega, ⟨Below.refl _ _⟩⟩
 case round =>
  obtain ⟨i, rfl, hi, HB⟩ := hrel
  by_cases hlt : i < l.length
  ·have q4 : decide ((i : Int) < (l.length : Int)) = true := decide_eq_true (by omega)
   obtain ⟨x, hx⟩ : ∃ x, l[i]? = some x := ⟨l[i]'hlt, List.getElem?_eq_getElem hlt⟩
   obtain ⟨a1, o1, _, e_, _, _, _, hx1⟩ := (H1.out.below HB.out).some_ (by omega)
   injection e_ with e_ _ e2_
   subst e_
   subst e2_
   obtain ⟨a2, o2, _, e_, _, _, _, hx2⟩ := (H2.out.below HB.out).some_ (by omega)
   injection e_ with e_ _ e2_
   subst e_
   subst e2_
   obtain ⟨g0, g1, g2, g3, g4⟩ := repV_get hx
   have p0 := hx1 _ _ g0
   have p1 := hx1 _ _ g1
   have p2 := hx1 _ _ g2
   have p3 := hx1 _ _ g3
   have p4 := hx1 _ _ g4
   have s0 := hx2 _ _ g0
   have s1 := hx2 _ _ g1
   have s2 := hx2 _ _ g2
   have s3 := hx2 _ _ g3
   have s4 := hx2 _ _ g4
   rw [← Nat.add_assoc] at p1 p2 p3 p4 s1 s2 s3 s4
   obtain ⟨y0, y1, y2, y3, y4⟩ := x
   have l1 := ((H1.out.below HB.out).lt (k := a1) rfl).1
   have l2 := ((H2.out.below HB.out).lt (k := a2) rfl).1
   have i0 : (0 : Int) ≤ (i : Int) := by omega
   have i1 : (i : Int) < (l.length : Int) := by omega
   dsimp only at p0 p1 p2 p3 p4 s0 s1 s2 s3 s4
   clear hx1 hx2 g0 g1 g2 g3 g4 hx
   go_wp2_with fail
   have n0 : (y0 != y0) = false := by simp
   have n1 : (y1 != y1) = false := by simp
   have n2 : (y2 != y2) = false := by simp
   have n3 : (y3 != y3) = false := by simp
   have n4 : (y4 != y4) = false := by simp
   go_region
   all_goals
    clear p0 p1 p2 p3 p4 s0 s1 s2 s3 s4
    go_wp2_with fail
    exact ⟨⟨i + 1, by simp, by omega, ⟨((HB.out.alloc HB.out.size _).alloc (by have := HB.out.size; simp; omega) _).drew⟩⟩, by simp [intOf]; omega⟩
  ·have q4 : decide ((i : Int) < (l.length : Int)) = false := decide_eq_false (by omega)
   go_wp2_with fail
   go_ret
   exact ⟨rfl, HB.out⟩
set_option maxHeartbeats 4000000 in
theorem ints_same (w : World) (b1 b2 : Nat) (v1 v2 : Value) (l : List Int) (h1 : RowV w b1 3 1 v1 l.length (iV l)) (h2 : RowV w b2 3 1 v2 l.length (iV l)) : Calls Try.prog 11 #[v1, v2] w fun e w' => e = .returned (.bool true) ∧ Below w.heap.size w w' := by
 obtain ⟨A1, c1, rfl, -, hc1⟩ := h1.form
 obtain ⟨A2, c2, rfl, -, hc2⟩ := h2.form
 have hlm : l.length ≤ 9223372036854775807 := by
  obtain ⟨_, _, _, h3, h4⟩ := h1.form
  unfold maxLen at h4
  omega
 have H1 := Aside0.mk h1
 have H2 := Aside0.mk h2
 clear h1 h2 hc1 hc2
 go_enter Try.func11, Try.ntmps11
 go_wp2_with fail
 go_loopw [5] (fun v5 wr => ∃ i : Nat, v5 = .int .i64 i ∧ i ≤ l.length ∧ Aside0 (Below w.heap.size w wr)) (fun v _ => l.length - (intOf v).toNat)
 case atStart => exact ⟨0, rfl, by omega, ⟨Below.refl _ _⟩⟩
 case round =>
  obtain ⟨i, rfl, hi, HB⟩ := hrel
  by_cases hlt : i < l.length
  ·have q4 : decide ((i : Int) < (l.length : Int)) = true := decide_eq_true (by omega)
   obtain ⟨x, hx⟩ : ∃ x, l[i]? = some x := ⟨l[i]'hlt, List.getElem?_eq_getElem hlt⟩
   obtain ⟨a1, o1, _, e_, _, _, _, hx1⟩ := (H1.out.below HB.out).some_ (by omega)
   injection e_ with e_ _ e2_
   subst e_
   subst e2_
   obtain ⟨a2, o2, _, e_, _, _, _, hx2⟩ := (H2.out.below HB.out).some_ (by omega)
   injection e_ with e_ _ e2_
   subst e_
   subst e2_
   have p0 := hx1 i (.int .i64 x) (by simp [iV, hx])
   have s0 := hx2 i (.int .i64 x) (by simp [iV, hx])
   have i0 : (0 : Int) ≤ (i : Int) := by omega
   have i1 : (i : Int) < (l.length : Int) := by omega
   have n0 : (x != x) = false := by simp
   clear hx1 hx2 hx
   go_wp2_with fail
   go_region
   all_goals
    clear p0 s0
    go_wp2_with fail
    exact ⟨⟨i + 1, by simp, by omega, ⟨HB.out.drew⟩⟩, by simp [intOf]; omega⟩
  ·have q4 : decide ((i : Int) < (l.length : Int)) = false := decide_eq_false (by omega)
   go_wp2_with fail
   go_ret
   exact ⟨rfl, HB.out⟩
end Go.Proofs.Ytgakmnholegbgaa.B
end
section
namespace Go.Proofs.Ytgakmnholegbgaa.B
open Go.RowKit Go.Proofs.YtgakmnholegbgaaW.PrintWords Go.Proofs.YtgakmnholegbgaaW.PrintLast Go.Proofs.YtgakmnholegbgaaW.PrintMore
set_option linter.unusedVariables false
set_option linter.unusedSimpArgs false
theorem head_natR (s : ByteArray) : ((s.size : Int) / 4) = ((s.size / 4 : Nat) : Int) := by omega
theorem joinP_badR {l : List P3} {x : P3} (hx : x ∈ l) (h : partOk x = false) : joinP l = (⟨#[]⟩, 1) := by
 unfold joinP
 rw [if_neg (by intro e; rw [e] at hx; cases hx), if_pos]
 intro ha
 rw [List.all_eq_true] at ha
 rw [ha x hx] at h
 cases h
theorem owns_drew {w : World} {base : Nat} {e : TypeId} {sz : Nat} {v : Value} {n : Nat} {xs : List Value} (h : w.ownsRow base e sz v n xs) : w.drew.ownsRow base e sz v n xs := h
theorem new_news_drew (w : World) (cs : List Value) (t : TypeId) : ∀ j u, cs[j]? = some u → (w.alloc (.cells cs.toArray t)).drew.cell? ((⟨w.heap.size, 0, none⟩ : Addr).add j) = some u := fun j u h => by
 rw [World.cell?_drew]
 exact new_news w cs t j u h
theorem own_append_step {P : Program} {w : World} {o : Oper} {a : Act} {K : Act → World → Prop} {Q : Exit → Act → World → Prop} (s x : Operand) (t : TypeId)
  (ho : o.op = .call { callee := .builtin .append, args := #[s, x], argTypes := #[t, t] })
  (e : TypeId) (i : TypeInfo) (z : Value) (size bytes : Nat) (ht : P.underlying t = some (.slice e)) (hi : P.info? e = some i) (hz : i.zero = some z)
  (hsize : i.size = size) (hby : i.bytes = bytes) (hzs : z.cells.size = size) (hsz : 0 < size)
  (base : Nat) (v : Value) (n : Nat) (olds : List Value) (hs : a.eval s = v) (HR : w.ownsRow base e size v n olds)
  (ad : Addr) (m c : Nat) (news : List Value) (hx : a.eval x = .slice (some ad) m c) (hl : news.length = m * size) (hnews : ∀ j u, news[j]? = some u → w.cell? (ad.add j) = some u) (h1 : ∀ u ∈ news, u.oneCell' = true)
  (h63 : n + m ≤ maxLen) (hbytes : (n + m) * bytes ≤ 140737488355328) (hbase : base ≤ w.heap.size)
  (h : ∀ v' w', w'.ownsRow base e size v' (n + m) (olds ++ news) → w.grownBy w' v.ownBlock → K (a.put o.dst v') w') : o.wp P a w K Q := by
 obtain ⟨v', w', hr, h2, h3, _⟩ := run_append_own (P := P) w base t o.type e i z size bytes ht hi hz hsize hby hzs hsz v n olds HR ad m c news hl hnews h1 h63 hbytes hbase
 unfold Oper.wp execOp
 simp only [ho, resolve, invoke, builtin, Sem.run_bind, Sem.run_pure, Result.andThen_ok, List.map_toArray, List.map_cons, List.map_nil, hs, hx, hr]
 exact h v' w' h2 h3
theorem head_cells (a b : Int) (n : Nat) (ha : 0 ≤ a ∧ a ≤ 31) (hb : 0 ≤ b ∧ b ≤ 255) (hn : n ≤ 65535) :
  [Value.int .u8 (IntKind.u8.wrap (wrap64 (128 + a))), Value.int .u8 (IntKind.u8.wrap b), Value.int .u8 (IntKind.u8.wrap ((n : Int) / 256)), Value.int .u8 (IntKind.u8.wrap (n : Int))] =
   Lib.byteCells [UInt8.ofNat (128 + a.toNat), UInt8.ofNat b.toNat, UInt8.ofNat (n / 256), UInt8.ofNat (n % 256)] := by
 have w8 : ∀ x : Int, 0 ≤ x → IntKind.u8.wrap x = ((UInt8.ofNat x.toNat).toNat : Int) := fun x hx => by
  rw [show IntKind.u8.wrap x = x % 256 by simp [IntKind.wrap, IntKind.signed, IntKind.bits], UInt8.toNat_ofNat']
  omega
 have e1 : wrap64 (128 + a) = 128 + a := by unfold wrap64; omega
 rw [e1, w8 _ (by omega), w8 b hb.1, w8 _ (by omega), w8 (n : Int) (by omega)]
 have e2 : (128 + a).toNat = 128 + a.toNat := by omega
 have e3 : ((n : Int) / 256).toNat = n / 256 := by omega
 have e4 : UInt8.ofNat n = UInt8.ofNat (n % 256) := by
  apply UInt8.toNat_inj.1
  rw [UInt8.toNat_ofNat', UInt8.toNat_ofNat']
  omega
 rw [e2, e3, Int.toNat_natCast, e4]
 rfl
def RRel1 (w : World) (l : List P3) (v4 : Value) (wr : World) : Prop := ∃ k : Nat, v4 = .int .i64 k ∧ k ≤ l.length ∧ Aside0 (∀ x ∈ l.take k, partOk x = true) ∧ Aside0 (Below w.heap.size w wr)
def RRel2 (wo : World) (l : List P3) (v6 v7 : Value) (wr : World) : Prop := ∃ k : Nat, v7 = .int .i64 k ∧ v6 = .int .i64 (total (l.take k) : Nat) ∧ k ≤ l.length ∧ total (l.take k) ≤ 65536 ∧ wr = wo
def RRel3 (wo : World) (l : List P3) (v8 v9 : Value) (wr : World) : Prop := ∃ k : Nat, v9 = .int .i64 k ∧ k ≤ l.length ∧ Aside0 (wr.ownsRow wo.heap.size 5 1 v8 (total (l.take k)) (Lib.byteCells (allBytes (l.take k)))) ∧ Aside0 (Below wo.heap.size wo wr)
set_option maxHeartbeats 8000000 in
set_option maxRecDepth 100000 in
theorem rjoin_walk (A : Option Addr) (c n : Nat) (l : List P3) (w : World) (hn : n = l.length) (hn0 : 0 < n) (hn1 : n ≤ 9223372036854775807) (hP : PartsAt w A l) (hs : ∀ x ∈ l, x.2.2.size ≤ 9223372036854775807) :
  Calls Try.prog 13 #[.slice A n c] w fun e w' => e = .returned (.tuple #[.string (joinP l).1, .int .i64 (joinP l).2]) ∧ Below w.heap.size w w' := by
 have HP := Aside0.mk hP
 have HS := Aside0.mk hs
 have HN := Aside0.mk hn
 obtain ⟨J1, hJ1⟩ : ∃ J, J = (joinP l).1 := ⟨_, rfl⟩
 obtain ⟨J2, hJ2⟩ : ∃ J, J = (joinP l).2 := ⟨_, rfl⟩
 rw [← hJ1, ← hJ2]
 have HJ1 := Aside0.mk hJ1
 have HJ2 := Aside0.mk hJ2
 have d0 : ((n : Int) == 0) = false := beq_eq_false_iff_ne.2 (by omega)
 clear hP hs hn hJ1 hJ2
 go_enter Try.func13, Try.ntmps13
 go_wp2_with fail
 go_loopw [4, 5] (fun v4 _ wr => RRel1 w l v4 wr) (fun v _ _ => n - (intOf v).toNat)
 case atStart => exact ⟨0, rfl, by omega, ⟨fun x hx => by simp at hx⟩, ⟨Below.refl _ _⟩⟩
 case round =>
  obtain ⟨k, rfl, hk, hOk, hB⟩ := hrel
  rw [← HN.out] at hk
  by_cases hlt : k < n
  ·obtain ⟨⟨x1, x2, x3⟩, hx⟩ : ∃ x, l[k]? = some x := ⟨l[k]'(by rw [← HN.out]; exact hlt), List.getElem?_eq_getElem (by rw [← HN.out]; exact hlt)⟩
   obtain ⟨ad, hA, t0, t1, t2⟩ := (HP.out.below hB.out) k _ hx
   dsimp only at t0 t1 t2
   subst hA
   have hmem : (x1, x2, x3) ∈ l := List.mem_of_getElem? hx
   have hsz := HS.out _ hmem
   dsimp only at hsz
   have htk : l.take (k + 1) = l.take k ++ [(x1, x2, x3)] := by rw [List.take_add_one, hx]; rfl
   have HTK := Aside0.mk htk
   have HM := Aside0.mk hmem
   have HBa := Aside0.mk (hB.out.alloc (o := .cells #[.int .i64 x1, .int .i64 x2, .string x3] 56) hB.out.size)
   have i0 : (0 : Int) ≤ (k : Int) := by omega
   have i1 : (k : Int) < (n : Int) := by omega
   clear hx htk hmem
   cases hok : partOk (x1, x2, x3)
   ·have hno : ¬ (0 ≤ x1 ∧ x1 ≤ 31 ∧ 192 ≤ x2 ∧ x2 ≤ 223 ∧ x3.size % 4 = 0 ∧ x3.size ≤ 262140) := by
     intro h
     have := (partOk_iff (x1, x2, x3)).2 h
     rw [this] at hok
     cases hok
    have HJB := Aside0.mk (joinP_badR HM.out hok)
    clear hok
    go_wp2_with fail
    all_goals first | (exfalso; omega) | skip
    all_goals go_ret2
    all_goals exact ⟨by rw [HJ1.out, HJ2.out, HJB.out]; rfl, HBa.out⟩
   ·have hyes := (partOk_iff (x1, x2, x3)).1 hok
    dsimp only at hyes
    obtain ⟨y0, y1, y2, y3, y4, y5⟩ := hyes
    have HOKX := Aside0.mk hok
    have z3 : ((x3.size : Int) % 4) = 0 := by omega
    clear hok
    go_wp2_with fail
    refine ⟨⟨k + 1, by simp, by rw [← HN.out]; omega, ⟨fun x hx => ?_⟩, HBa⟩, by simp [intOf]; omega⟩
    rw [HTK.out] at hx
    rcases List.mem_append.1 hx with h | h
    ·exact hOk.out x h
    ·rw [List.mem_singleton.1 h]; exact HOKX.out
  ·have hkn : k = l.length := by rw [← HN.out]; omega
   have hta : l.take k = l := by rw [hkn, List.take_length]
   rw [hta] at hOk
   have hne : l ≠ [] := by intro e; have := HN.out; rw [e] at this; simp at this; omega
   have hall : l.all partOk = true := List.all_eq_true.2 hOk.out
   have HNE := Aside0.mk hne
   have HALL := Aside0.mk hall
   have hkn2 : k = n := by rw [hkn, HN.out]
   subst hkn2
   clear hlt hkn hta hne hall
   obtain ⟨wo, rfl⟩ : ∃ wo : World, wo = wr := ⟨_, rfl⟩
   have hsz0 := hB.out.size
   go_wp2_with fail
   go_loopw [6, 7] (fun v6 v7 wr => RRel2 wo l v6 v7 wr) (fun _ v _ => k - (intOf v).toNat)
   case atStart => exact ⟨0, rfl, rfl, by omega, by simp [total], rfl⟩
   case round =>
    obtain ⟨j, rfl, rfl, hj, htj, rfl⟩ := hrel
    obtain ⟨wo, rfl⟩ : ∃ wo : World, wo = wr := ⟨_, rfl⟩
    rw [← HN.out] at hj
    by_cases hlt2 : j < k
    ·obtain ⟨⟨x1, x2, x3⟩, hx⟩ : ∃ x, l[j]? = some x := ⟨l[j]'(by rw [← HN.out]; exact hlt2), List.getElem?_eq_getElem (by rw [← HN.out]; exact hlt2)⟩
     obtain ⟨ad, hA, t0, t1, t2⟩ := (HP.out.below hB.out) j _ hx
     dsimp only at t0 t1 t2
     subst hA
     have hok := (partOk_iff (x1, x2, x3)).1 (hOk.out _ (List.mem_of_getElem? hx))
     dsimp only at hok
     obtain ⟨y0, y1, y2, y3, y4, y5⟩ := hok
     have htk : l.take (j + 1) = l.take j ++ [(x1, x2, x3)] := by rw [List.take_add_one, hx]; rfl
     have hsn := total_snoc (l.take j) (x1, x2, x3)
     rw [← htk] at hsn
     simp only [sizeP] at hsn
     have htl := total_take l (j + 1)
     obtain ⟨T, hT⟩ : ∃ T, T = total (l.take j) := ⟨_, rfl⟩
     rw [← hT] at hsn htj ⊢
     have HSN := Aside0.mk hsn
     have i0 : (0 : Int) ≤ (j : Int) := by omega
     have i1 : (j : Int) < (k : Int) := by omega
     rw [hsn] at htl
     clear hx htk hsn hT
     by_cases hbig : 65536 < T + (4 + x3.size)
     ·have q1 : decide (65536 < (T : Int) + (4 + (x3.size : Int))) = true := decide_eq_true (by omega)
      have hJ : joinP l = (⟨#[]⟩, 2) := by
       unfold joinP
       rw [if_neg HNE.out, if_neg (by rw [HALL.out]; simp), if_pos (by omega)]
      have HJB := Aside0.mk hJ
      clear hJ htl
      go_wp2_with fail
      go_ret2
      exact ⟨by rw [HJ1.out, HJ2.out, HJB.out]; rfl, hB.out⟩
     ·have q1 : decide (65536 < (T : Int) + (4 + (x3.size : Int))) = false := decide_eq_false (by omega)
      clear htl
      go_wp2_with fail
      exact ⟨⟨j + 1, by simp, by rw [HSN.out]; simp, by rw [← HN.out]; omega, by rw [HSN.out]; omega, rfl⟩, by simp [intOf]; omega⟩
    ·have hjl : l.take j = l := by rw [List.take_of_length_le]; rw [← HN.out]; omega
     rw [hjl] at htj ⊢
     have hJ : joinP l = (⟨(allBytes l).toArray⟩, 0) := by
      unfold joinP
      rw [if_neg HNE.out, if_neg (by rw [HALL.out]; simp), if_neg (by omega)]
     have HJB := Aside0.mk hJ
     have HTT := Aside0.mk htj
     have q2 : decide ((j : Int) < (k : Int)) = false := decide_eq_false (by omega)
     clear hJ hjl htj
     go_wp2_with fail
     go_loopw [8, 9, 10] (fun v8 v9 _ wr => RRel3 wo l v8 v9 wr) (fun _ v _ _ => k - (intOf v).toNat)
     case atStart => exact ⟨0, rfl, by omega, ⟨by simpa [total, allBytes, Lib.byteCells] using World.ownsRow_nil wo wo.heap.size 5 1⟩, ⟨Below.refl _ _⟩⟩
     case round =>
      obtain ⟨k2, rfl, hk2, hR, hB2⟩ := hrel
      rw [← HN.out] at hk2
      obtain ⟨kk, hkk⟩ : ∃ kk, kk = k := ⟨_, rfl⟩
      rw [← hkk] at hk2 HN ⊢
      have hkk9 : kk ≤ 9223372036854775807 := by rw [hkk]; exact hn1
      clear hkk
      obtain ⟨k, rfl⟩ : ∃ k3, k3 = k2 := ⟨_, rfl⟩
      by_cases hlt3 : k < kk
      ·obtain ⟨⟨x1, x2, x3⟩, hx⟩ : ∃ x, l[k]? = some x := ⟨l[k]'(by rw [← HN.out]; exact hlt3), List.getElem?_eq_getElem (by rw [← HN.out]; exact hlt3)⟩
       have hBw : Below w.heap.size w wr := hB.out.trans (hB2.out.mono hsz0)
       have hPr := HP.out.below hBw
       obtain ⟨ad, hA, t0, t1, t2⟩ := hPr k _ hx
       dsimp only at t0 t1 t2
       subst hA
       have hok := (partOk_iff (x1, x2, x3)).1 (hOk.out _ (List.mem_of_getElem? hx))
       dsimp only at hok
       obtain ⟨y0, y1, y2, y3, y4, y5⟩ := hok
       have HX := Aside0.mk hx
       have i0 : (0 : Int) ≤ (k : Int) := by omega
       have i1 : (k : Int) < (kk : Int) := by omega
       obtain ⟨T, hT⟩ : ∃ T, T = total (l.take k) := ⟨_, rfl⟩
       rw [← hT] at hR
       have hTl := total_take l k
       have hT9 : T ≤ 65536 := by have := HTT.out; omega
       have HT := Aside0.mk hT
       have hadlt := World.block_lt_of_cell? wr _ t0
       have m0 : ∀ o, (wr.alloc o).cell? (ad.add (k * 3)) = some (.int .i64 x1) := fun o => (World.cell?_of_block (Below.heap_alloc wr o _ hadlt)).trans t0
       have m1 : ∀ o, (wr.alloc o).cell? ⟨(ad.add (k * 3)).block, (ad.add (k * 3)).off + 1, none⟩ = some (.int .i64 x2) := fun o => (World.cell?_of_block (a := ⟨(ad.add (k * 3)).block, (ad.add (k * 3)).off + 1, none⟩) (Below.heap_alloc wr o _ hadlt)).trans t1
       have HR4 := Aside0.mk (owns_drew (hR.out.alloc (.cells #[.int .u8 (IntKind.u8.wrap (wrap64 (128 + x1))), .int .u8 (IntKind.u8.wrap x2), .int .u8 (IntKind.u8.wrap ((x3.size : Int) / 4 / 256)), .int .u8 (IntKind.u8.wrap ((x3.size : Int) / 4))] 5)))
       have HB4 := Aside0.mk (hB2.out.alloc (o := .cells #[.int .u8 (IntKind.u8.wrap (wrap64 (128 + x1))), .int .u8 (IntKind.u8.wrap x2), .int .u8 (IntKind.u8.wrap ((x3.size : Int) / 4 / 256)), .int .u8 (IntKind.u8.wrap ((x3.size : Int) / 4))] 5) hB2.out.size).drew
       have HS4 : Aside0 (wo.heap.size ≤ ((wr.alloc (.cells #[.int .u8 (IntKind.u8.wrap (wrap64 (128 + x1))), .int .u8 (IntKind.u8.wrap x2), .int .u8 (IntKind.u8.wrap ((x3.size : Int) / 4 / 256)), .int .u8 (IntKind.u8.wrap ((x3.size : Int) / 4))] 5)).drew).heap.size) := ⟨HB4.out.size⟩
       have HPr := Aside0.mk hPr
       clear hx hT hTl hPr
       go_wp2_with fail
       refine start_ (n := 22) (S := fun w' => w'.cell? (ad.add (k * 3)) = some (.int .i64 x1) ∧ w'.cell? ⟨(ad.add (k * 3)).block, (ad.add (k * 3)).off + 1, none⟩ = some (.int .i64 x2)) (ds := [20]) #[false, false, false, false, false, false, false, false, false, false, false, false, false, false, false, false, false, false, false, false, false, false] (by kernel_rfl) rfl rfl ⟨t0, t1⟩ (fun hHeld => ?_)
       refine pure_ (i := 0) (N := some 85) (v := ?_) (a' := ?_) #[true, false, false, false, false, false, false, false, false, false, false, false, false, false, false, false, false, false, false, false, false, false] rfl rfl (by kernel_rfl) (fun _ _ _ h => h) (Or.inl ⟨by rfl, ?_⟩) ?_ ?_
       rotate_left
       ·intro w'
        go_simp
        with_reducible rfl
       rotate_left
       ·simp only [Act.put, List.setIfInBounds_toArray, List.set_cons_zero, List.set_cons_succ, i64_w, i32_w]
        rfl
       refine pure_ (i := 1) (N := some 86) (v := ?_) (a' := ?_) #[true, true, false, false, false, false, false, false, false, false, false, false, false, false, false, false, false, false, false, false, false, false] rfl rfl (by kernel_rfl) (fun _ _ _ h => h) (Or.inl ⟨by rfl, ?_⟩) ?_ ?_
       rotate_left
       ·intro w'
        go_simp
        with_reducible rfl
       rotate_left
       ·simp only [Act.put, List.setIfInBounds_toArray, List.set_cons_zero, List.set_cons_succ, i64_w, i32_w]
        rfl
       refine pure_ (i := 2) (N := some 87) (v := ?_) (a' := ?_) #[true, true, true, false, false, false, false, false, false, false, false, false, false, false, false, false, false, false, false, false, false, false] rfl rfl (by kernel_rfl) (fun _ _ _ h => h) (Or.inl ⟨by rfl, ?_⟩) ?_ ?_
       rotate_left
       ·intro w'
        go_simp
        with_reducible rfl
       rotate_left
       ·simp only [Act.put, List.setIfInBounds_toArray, List.set_cons_zero, List.set_cons_succ, i64_w, i32_w]
        rfl
       refine pure_ (i := 3) (N := some 88) (v := ?_) (a' := ?_) #[true, true, true, true, false, false, false, false, false, false, false, false, false, false, false, false, false, false, false, false, false, false] rfl rfl (by kernel_rfl) (fun _ _ _ h => h) (Or.inl ⟨by rfl, ?_⟩) ?_ ?_
       rotate_left
       ·intro w'
        go_simp
        with_reducible rfl
       rotate_left
       ·simp only [Act.put, List.setIfInBounds_toArray, List.set_cons_zero, List.set_cons_succ, i64_w, i32_w]
        rfl
       refine pure_ (i := 4) (N := some 89) (v := ?_) (a' := ?_) #[true, true, true, true, true, false, false, false, false, false, false, false, false, false, false, false, false, false, false, false, false, false] rfl rfl (by kernel_rfl) (fun _ _ _ h => h) (Or.inl ⟨by rfl, ?_⟩) ?_ ?_
       rotate_left
       ·intro w'
        go_simp
        with_reducible rfl
       rotate_left
       ·simp only [Act.put, List.setIfInBounds_toArray, List.set_cons_zero, List.set_cons_succ, i64_w, i32_w]
        rfl
       refine pure_ (i := 8) (N := some 93) (v := ?_) (a' := ?_) #[true, true, true, true, true, false, false, false, true, false, false, false, false, false, false, false, false, false, false, false, false, false] rfl rfl (by kernel_rfl) (fun _ _ _ h => h) (Or.inl ⟨by rfl, ?_⟩) ?_ ?_
       rotate_left
       ·intro w'
        go_simp
        with_reducible rfl
       rotate_left
       ·simp only [Act.put, List.setIfInBounds_toArray, List.set_cons_zero, List.set_cons_succ, i64_w, i32_w]
        rfl
       refine pure_ (i := 9) (N := some 94) (v := ?_) (a' := ?_) #[true, true, true, true, true, false, false, false, true, true, false, false, false, false, false, false, false, false, false, false, false, false] rfl rfl (by kernel_rfl) (fun _ _ _ h => h) (Or.inl ⟨by rfl, ?_⟩) ?_ ?_
       rotate_left
       ·intro w'
        go_simp
        with_reducible rfl
       rotate_left
       ·simp only [Act.put, List.setIfInBounds_toArray, List.set_cons_zero, List.set_cons_succ, i64_w, i32_w]
        rfl
       refine pure_ (i := 10) (N := some 95) (v := ?_) (a' := ?_) #[true, true, true, true, true, false, false, false, true, true, true, false, false, false, false, false, false, false, false, false, false, false] rfl rfl (by kernel_rfl) (fun _ _ _ h => h) (Or.inl ⟨by rfl, ?_⟩) ?_ ?_
       rotate_left
       ·intro w'
        go_simp
        with_reducible rfl
       rotate_left
       ·simp only [Act.put, List.setIfInBounds_toArray, List.set_cons_zero, List.set_cons_succ, i64_w, i32_w]
        rfl
       refine pure_ (i := 11) (N := some 96) (v := ?_) (a' := ?_) #[true, true, true, true, true, false, false, false, true, true, true, true, false, false, false, false, false, false, false, false, false, false] rfl rfl (by kernel_rfl) (fun _ _ _ h => h) (Or.inl ⟨by rfl, ?_⟩) ?_ ?_
       rotate_left
       ·intro w'
        go_simp
        with_reducible rfl
       rotate_left
       ·simp only [Act.put, List.setIfInBounds_toArray, List.set_cons_zero, List.set_cons_succ, i64_w, i32_w]
        rfl
       refine pure_ (i := 14) (N := some 99) (v := ?_) (a' := ?_) #[true, true, true, true, true, false, false, false, true, true, true, true, false, false, true, false, false, false, false, false, false, false] rfl rfl (by kernel_rfl) (fun _ _ _ h => h) (Or.inl ⟨by rfl, ?_⟩) ?_ ?_
       rotate_left
       ·intro w'
        go_simp
        with_reducible rfl
       rotate_left
       ·simp only [Act.put, List.setIfInBounds_toArray, List.set_cons_zero, List.set_cons_succ, i64_w, i32_w]
        rfl
       refine pure_ (i := 15) (N := some 100) (v := ?_) (a' := ?_) #[true, true, true, true, true, false, false, false, true, true, true, true, false, false, true, true, false, false, false, false, false, false] rfl rfl (by kernel_rfl) (fun _ _ _ h => h) (Or.inl ⟨by rfl, ?_⟩) ?_ ?_
       rotate_left
       ·intro w'
        go_simp
        with_reducible rfl
       rotate_left
       ·simp only [Act.put, List.setIfInBounds_toArray, List.set_cons_zero, List.set_cons_succ, i64_w, i32_w]
        rfl
       refine pure_ (i := 16) (N := some 101) (v := ?_) (a' := ?_) #[true, true, true, true, true, false, false, false, true, true, true, true, false, false, true, true, true, false, false, false, false, false] rfl rfl (by kernel_rfl) (fun _ _ _ h => h) (Or.inl ⟨by rfl, ?_⟩) ?_ ?_
       rotate_left
       ·intro w'
        go_simp
        with_reducible rfl
       rotate_left
       ·simp only [Act.put, List.setIfInBounds_toArray, List.set_cons_zero, List.set_cons_succ, i64_w, i32_w]
        rfl
       refine pure_ (i := 17) (N := some 102) (v := ?_) (a' := ?_) #[true, true, true, true, true, false, false, false, true, true, true, true, false, false, true, true, true, true, false, false, false, false] rfl rfl (by kernel_rfl) (fun _ _ _ h => h) (Or.inl ⟨by rfl, ?_⟩) ?_ ?_
       rotate_left
       ·intro w'
        go_simp
        with_reducible rfl
       rotate_left
       ·simp only [Act.put, List.setIfInBounds_toArray, List.set_cons_zero, List.set_cons_succ, i64_w, i32_w]
        rfl
       refine pure_ (i := 18) (N := some 103) (v := ?_) (a' := ?_) #[true, true, true, true, true, false, false, false, true, true, true, true, false, false, true, true, true, true, true, false, false, false] rfl rfl (by kernel_rfl) (fun _ _ _ h => h) (Or.inl ⟨by rfl, ?_⟩) ?_ ?_
       rotate_left
       ·intro w'
        go_simp
        with_reducible rfl
       rotate_left
       ·simp only [Act.put, List.setIfInBounds_toArray, List.set_cons_zero, List.set_cons_succ, i64_w, i32_w]
        rfl
       refine take_ (i := 5) (N := some 90) (v := ?_) (a' := ?_) #[true, true, true, true, true, true, false, false, true, true, true, true, false, false, true, true, true, true, true, false, false, false] rfl rfl (by kernel_rfl) (fun _ _ _ h => h) (Or.inl ⟨by rfl, ?_⟩) hHeld ?_ ?_
       rotate_left
       ·rintro w' ⟨s0, s1⟩
        go_simp
        with_reducible rfl
       rotate_left
       ·simp only [Act.put, List.setIfInBounds_toArray, List.set_cons_zero, List.set_cons_succ, i64_w, i32_w]
        rfl
       refine pure_ (i := 6) (N := some 91) (v := ?_) (a' := ?_) #[true, true, true, true, true, true, true, false, true, true, true, true, false, false, true, true, true, true, true, false, false, false] rfl rfl (by kernel_rfl) (fun _ _ _ h => h) (Or.inl ⟨by rfl, ?_⟩) ?_ ?_
       rotate_left
       ·intro w'
        go_simp
        with_reducible rfl
       rotate_left
       ·simp only [Act.put, List.setIfInBounds_toArray, List.set_cons_zero, List.set_cons_succ, i64_w, i32_w]
        rfl
       refine pure_ (i := 7) (N := some 92) (v := ?_) (a' := ?_) #[true, true, true, true, true, true, true, true, true, true, true, true, false, false, true, true, true, true, true, false, false, false] rfl rfl (by kernel_rfl) (fun _ _ _ h => h) (Or.inl ⟨by rfl, ?_⟩) ?_ ?_
       rotate_left
       ·intro w'
        go_simp
        with_reducible rfl
       rotate_left
       ·simp only [Act.put, List.setIfInBounds_toArray, List.set_cons_zero, List.set_cons_succ, i64_w, i32_w]
        rfl
       refine take_ (i := 12) (N := some 97) (v := ?_) (a' := ?_) #[true, true, true, true, true, true, true, true, true, true, true, true, true, false, true, true, true, true, true, false, false, false] rfl rfl (by kernel_rfl) (fun _ _ _ h => h) (Or.inl ⟨by rfl, ?_⟩) hHeld ?_ ?_
       rotate_left
       ·rintro w' ⟨s0, s1⟩
        go_simp
        with_reducible rfl
       rotate_left
       ·simp only [Act.put, List.setIfInBounds_toArray, List.set_cons_zero, List.set_cons_succ, i64_w, i32_w]
        rfl
       refine pure_ (i := 13) (N := some 98) (v := ?_) (a' := ?_) #[true, true, true, true, true, true, true, true, true, true, true, true, true, true, true, true, true, true, true, false, false, false] rfl rfl (by kernel_rfl) (fun _ _ _ h => h) (Or.inl ⟨by rfl, ?_⟩) ?_ ?_
       rotate_left
       ·intro w'
        go_simp
        with_reducible rfl
       rotate_left
       ·simp only [Act.put, List.setIfInBounds_toArray, List.set_cons_zero, List.set_cons_succ, i64_w, i32_w]
        rfl
       refine one_ (i := 19) (N := some 104) #[true, true, true, true, true, true, true, true, true, true, true, true, true, true, true, true, true, true, true, true, false, false] rfl rfl (by kernel_rfl) (by decide) (fun K hK => ?_)
       refine value_ (w1 := ?_) (v := ?_) (by rfl) rfl ?_ ?_
       rotate_left 2
       ·go_simp
        constructor
        ·rfl
        ·rfl
       refine hK.out _ _ ⟨(m0 _), (m1 _)⟩ (fun hHeld => ?_)
       clear hK K
       refine norm_ (a' := ?_) ?_ ?_
       rotate_left
       ·show Act.put _ (some 104) _ = _
        simp only [Act.put, List.setIfInBounds_toArray, List.set_cons_zero, List.set_cons_succ, i64_w, i32_w]
        rfl
       refine last_ (i := 20) (N := some 105) #[true, true, true, true, true, true, true, true, true, true, true, true, true, true, true, true, true, true, true, true, true, false] rfl rfl (by kernel_rfl) (by decide) (fun K hK => ?_)
       refine own_append_step (w := (wr.alloc (.cells #[.int .u8 (IntKind.u8.wrap (wrap64 (128 + x1))), .int .u8 (IntKind.u8.wrap x2), .int .u8 (IntKind.u8.wrap ((x3.size : Int) / 4 / 256)), .int .u8 (IntKind.u8.wrap ((x3.size : Int) / 4))] 5)).drew) (.tmp 85) (.tmp 104) 87 rfl 5 Try.t5 (.int .u8 0) 1 1 Try.underlying87 (by kernel_rfl) rfl rfl rfl (by decide) (by decide) wo.heap.size u8 T (Lib.byteCells (allBytes (l.take k))) (by rfl) HR4.out ⟨wr.heap.size, 0, none⟩ 4 4 [.int .u8 (IntKind.u8.wrap (wrap64 (128 + x1))), .int .u8 (IntKind.u8.wrap x2), .int .u8 (IntKind.u8.wrap ((x3.size : Int) / 4 / 256)), .int .u8 (IntKind.u8.wrap ((x3.size : Int) / 4))] (by rfl) rfl (new_news_drew wr _ _) (by simp [Value.oneCell']) (by simp only [maxLen]; omega) (by omega) HS4.out ?_
       intro v5 w5 hR5 hG5
       refine hK.out _ _ ?_
       clear hK K
       refine norm_ (a' := ?_) ?_ ?_
       rotate_left
       ·show Act.put _ (some 105) _ = _
        simp only [Act.put, List.setIfInBounds_toArray, List.set_cons_zero, List.set_cons_succ, i64_w, i32_w]
        rfl
       refine pure_ (i := 21) (N := some 8) (v := ?_) (a' := ?_) #[true, true, true, true, true, true, true, true, true, true, true, true, true, true, true, true, true, true, true, true, true, true] rfl rfl (by kernel_rfl) (fun _ _ _ h => h) (Or.inl ⟨by rfl, ?_⟩) ?_ ?_
       rotate_left
       ·intro w'
        go_simp
        with_reducible rfl
       rotate_left
       ·simp only [Act.put, List.setIfInBounds_toArray, List.set_cons_zero, List.set_cons_succ, i64_w, i32_w]
        rfl
       refine done_ (by kernel_rfl) ?_
       have hB5 := below_new HB4.out hG5 (fun k hk => (HR4.out.lt k hk).1)
       rw [head_natR, head_cells x1 x2 (x3.size / 4) ⟨y0, y1⟩ ⟨by omega, by omega⟩ (by omega), ← Lib.byteCells_append] at hR5
       have HR5 := Aside0.mk hR5
       have HB5 := Aside0.mk hB5
       obtain ⟨ad', e', _, _, v2⟩ := (HP.out.below (hB.out.trans (hB5.mono hsz0))) k _ HX.out
       injection e' with e'
       subst e'
       dsimp only at v2
       have HS5 := Aside0.mk hB5.size
       clear hR5 hB5 hG5 hHeld t0 t1 t2 m0 m1
       go_wp2_with (at_builtin; go_loud (refine Lib.wpList_append_own_string (w := w5) rfl (.tmp 106) (.tmp 111) 87 9 rfl wo.heap.size 5 Try.t5 Try.underlying87 Try.underlying9 (by kernel_rfl) rfl rfl rfl v5 (T + 4) _ (by rfl) HR5.out x3 (by rfl) (by simp only [maxLen]; omega) (by omega) HS5.out ?_); intro v6 w6 hR6 hG6 hN6; have HR6 := Aside0.mk hR6; have HB6 := Aside0.mk (below_new HB5.out hG6 (fun k hk => (HR5.out.lt k hk).1)); clear hR6 hG6 hN6)
       refine ⟨⟨k + 1, by simp, by rw [← HN.out]; omega, ⟨?_⟩, HB6⟩, by simp [intOf]; omega⟩
       have h := HR6.out
       rw [Lib.strCells_eq, ← Lib.byteCells_append] at h
       have htk : l.take (k + 1) = l.take k ++ [(x1, x2, x3)] := by rw [List.take_add_one, HX.out]; rfl
       have e : allBytes (l.take (k + 1)) = allBytes (l.take k) ++ [UInt8.ofNat (128 + x1.toNat), UInt8.ofNat x2.toNat, UInt8.ofNat (x3.size / 4 / 256), UInt8.ofNat (x3.size / 4 % 256)] ++ x3.data.toList := by
        rw [htk, allBytes_snoc, List.append_assoc]
        rfl
       rw [e, htk, total_snoc, ← HT.out]
       simp only [sizeP]
       rw [← Nat.add_assoc]
       exact h
      ·have hkl : l.take k = l := by rw [List.take_of_length_le]; rw [← HN.out]; omega
       rw [hkl] at hR
       have hT0 : 0 < total l := by
        cases l with
        | nil => exact absurd rfl HNE.out
        | cons x m => rw [total_cons]; simp only [sizeP]; omega
       obtain ⟨T, hT⟩ : ∃ T, T = total l := ⟨_, rfl⟩
       rw [← hT] at hR hT0
       obtain ⟨hlen, ⟨rfl, h0⟩ | ⟨g, cap, cur, rfl, hb8, hg8, hn8, hc8, hs8, ht8⟩⟩ := hR.out
       ·omega
       have hcv : (convert 87 9 (.slice (some ⟨g, 0, none⟩) T cap)).run Try.prog wr = .ok (.string ⟨(allBytes l).toArray⟩) wr := by
        have hTl : T = (allBytes l).length := by rw [allBytes_length, hT]
        rw [hTl]
        refine run_convert_bytes_back wr 87 9 5 ⟨g, 0, none⟩ cap (allBytes l) Try.underlying87 Try.underlying5 Try.underlying9 (fun j hj => ?_)
        refine hR.out.cells (g := g) rfl j _ ?_
        simp [Lib.byteCells, List.getElem?_eq_getElem hj]
       have q3 : decide ((k : Int) < (kk : Int)) = false := decide_eq_false (by omega)
       have HBF := Aside0.mk (hB.out.trans (hB2.out.mono hsz0))
       clear hT hkl
       go_wp2_with fail
       go_ret2
       exact ⟨by rw [HJ1.out, HJ2.out, HJB.out]; rfl, HBF.out⟩
theorem rjoin_any (A : Option Addr) (c : Nat) (l : List P3) (w : World) (hn1 : l.length ≤ 9223372036854775807) (hP : PartsAt w A l) (hs : ∀ x ∈ l, x.2.2.size ≤ 9223372036854775807) :
  Calls Try.prog 13 #[.slice A l.length c] w fun e w' => e = .returned (.tuple #[.string (joinP l).1, .int .i64 (joinP l).2]) ∧ Below w.heap.size w w' := by
 by_cases h0 : 0 < l.length
 ·exact rjoin_walk A c l.length l w rfl h0 hn1 hP hs
 ·obtain rfl : l = [] := List.eq_nil_of_length_eq_zero (by omega)
  clear hP hs hn1 h0
  go_enter Try.func13, Try.ntmps13
  go_wp2_with fail
  all_goals go_ret2
  all_goals exact ⟨rfl, Below.refl _ _⟩
end Go.Proofs.Ytgakmnholegbgaa.B
end
section
namespace Go.Proofs.Ytgakmnholegbgaa.B
open Go.RowKit Go.Proofs.YtgakmnholegbgaaW.PrintWords Go.Proofs.YtgakmnholegbgaaW.PrintLast Go.Proofs.YtgakmnholegbgaaW.PrintMore
set_option linter.unusedVariables false
set_option linter.unusedSimpArgs false
def lenW (p : Nat) (w : World) : Nat := (intOf ((w.cell? ⟨p, 1, none⟩).getD undef)).toNat
theorem lenW_is {w : World} {p T E : Nat} {l : List Bool} (h : WrIs w p T E l) : lenW p w = l.length := by
 obtain ⟨v, hp, _⟩ := h
 have h1 := blk_cell hp 1
 simp only [List.getElem?_toArray, List.getElem?_cons_zero, List.getElem?_cons_succ] at h1
 unfold lenW
 rw [h1]
 simp [intOf]
set_option maxHeartbeats 4000000 in
theorem ralign_any (w : World) (p : Nat) (l : List Bool) (h : WrIs w p 123 5 l) (hl : l.length + 32 ≤ 524288) :
  Calls Try.prog 31 #[.pointer (some ⟨p, 0, none⟩), .int .i64 32] w fun e w' => e = .returned (.tuple #[]) ∧ WrIs w' p 123 5 (l ++ List.replicate ((32 - l.length % 32) % 32) false) ∧ Below p w w' := by
 have h' := h
 obtain ⟨vv, hp, HO⟩ := h'
 have h1 := blk_cell hp 1
 simp only [List.getElem?_toArray, List.getElem?_cons_zero, List.getElem?_cons_succ] at h1
 have H := Aside0.mk h
 clear hp HO h
 go_enter Try.func31, Try.ntmps31
 have qd : decide (524288 - (l.length : Int) < -((l.length : Int) % 32) % 32) = false := decide_eq_false (by omega)
 obtain ⟨K, hK⟩ : ∃ K, K = (32 - l.length % 32) % 32 := ⟨_, rfl⟩
 rw [← hK]
 have HK := Aside0.mk hK
 clear hK
 go_wp2
 go_region
 go_wp2_with fail
 clear qd h1
 generalize ((32 - (l.length : Int) % 32) % 32) = V20
 go_loopw [28] (fun _ wr => ∃ j : Nat, j ≤ K ∧ Aside0 (WrIs wr p 123 5 (l ++ List.replicate j false)) ∧ Aside0 (Below p w wr)) (fun _ wr => l.length + K - lenW p wr)
 case atStart => exact ⟨0, Nat.zero_le _, ⟨by rw [List.replicate_zero, List.append_nil]; exact H.out⟩, ⟨(Below.refl _ _).drew⟩⟩
 case round =>
  clear H
  obtain ⟨j, hj, H, HB⟩ := hrel
  have HL := Aside0.mk (lenW_is H.out)
  obtain ⟨vv2, hp, HO⟩ := H.out
  have h1 := blk_cell hp 1
  simp only [List.getElem?_toArray, List.getElem?_cons_zero, List.getElem?_cons_succ] at h1
  rw [List.length_append, List.length_replicate] at h1
  clear hp HO
  have hKK := HK.out
  by_cases hlt : j < K
  ·have q1 : (((l.length : Int) + (j : Int)) % 32 != 0) = true := by simp; omega
   clear hKK
   go_wp2_with fail
   refine (bit_any _ p _ false H.out (by rw [List.length_append, List.length_replicate]; have := HK.out; omega)).mono ?_
   rintro e w1 ⟨rfl, hW, hB⟩
   have HW := Aside0.mk hW
   have HB1 := Aside0.mk (HB.out.trans hB)
   clear hW hB
   go_wp2_with fail
   refine ⟨⟨j + 1, by omega, ⟨?_⟩, HB1⟩, ?_⟩
   ·rw [List.replicate_succ', ← List.append_assoc]
    exact HW.out
   ·show l.length + K - lenW p _ < l.length + K - lenW p _
    rw [HL.out, lenW_is HW.out]
    simp only [List.length_append, List.length_replicate, List.length_cons, List.length_nil]
    omega
  ·have hjk : j = K := by omega
   have q1 : (((l.length : Int) + (j : Int)) % 32 != 0) = false := by simp; omega
   rw [hjk] at H
   clear hKK hjk
   go_wp2_with fail
   go_end0
   exact ⟨rfl, H.out, HB.out⟩
end Go.Proofs.Ytgakmnholegbgaa.B
end
section
namespace Go.Proofs.Ytgakmnholegbgaa.B
open Go.RowKit Go.Proofs.YtgakmnholegbgaaW.PrintWords Go.Proofs.YtgakmnholegbgaaW.PrintLast Go.Proofs.YtgakmnholegbgaaW.PrintMore
set_option linter.unusedVariables false
set_option linter.unusedSimpArgs false
def rowBits (l : List Int) (bits n : Nat) : List Bool := (List.range n).flatMap fun i => toBits bits (l.getD i 0).toNat
theorem rowBits_succ (l : List Int) (bits n : Nat) : rowBits l bits (n + 1) = rowBits l bits n ++ toBits bits (l.getD n 0).toNat := by simp [rowBits, List.range_succ]
theorem rowBits_length (l : List Int) (bits n : Nat) : (rowBits l bits n).length = n * bits := by
 induction n with
 | zero => simp [rowBits]
 | succ n ih => rw [rowBits_succ, List.length_append, toBits_length, ih, Nat.add_mul]; omega
set_option maxHeartbeats 4000000 in
set_option maxRecDepth 100000 in
theorem rrow_any (w : World) (p g o c : Nat) (L : List Bool) (l : List Int) (n bits : Nat) (hW : WrIs w p 123 5 L) (hg : g < p) (hl : ∀ i x, l[i]? = some x → w.cell? ⟨g, o + i, none⟩ = some (.int .i64 x) ∧ 0 ≤ x ∧ x < 4294967296) (hn : n ≤ 100) (hb : bits ≤ 32) (hL : L.length + n * bits ≤ 524288) (hll : l.length ≤ 4096) :
  Calls Try.prog 35 #[.pointer (some ⟨p, 0, none⟩), .slice (some ⟨g, o, none⟩) l.length c, .int .i64 (n : Int), .int .i64 (bits : Int)] w fun e w' => e = .returned (.tuple #[]) ∧ WrIs w' p 123 5 (L ++ rowBits l bits n) ∧ Below p w w' := by
 have HL := Aside0.mk hl
 have HW := Aside0.mk hW
 have HLn := Aside0.mk hL
 clear hl hW hL
 go_enter Try.func35, Try.ntmps35
 go_wp2_with fail
 go_loopw [8, 9] (fun v8 _ wr => ∃ i : Nat, v8 = .int .i64 i ∧ i ≤ n ∧ Aside0 (WrIs wr p 123 5 (L ++ rowBits l bits i)) ∧ Aside0 (Below p w wr)) (fun v _ _ => n - (intOf v).toNat)
 case atStart => exact ⟨0, rfl, by omega, ⟨by rw [show rowBits l bits 0 = [] from rfl, List.append_nil]; exact HW.out⟩, ⟨Below.refl _ _⟩⟩
 case round =>
  clear HW
  obtain ⟨i, rfl, hi, HW, HB⟩ := hrel
  by_cases hlt : i < n
  ·have q4 : decide ((i : Int) < (n : Int)) = true := decide_eq_true (by omega)
   have hlen : (L ++ rowBits l bits i).length + bits ≤ 524288 := by
    rw [List.length_append, rowBits_length]
    have h1 := HLn.out
    have h2 : i * bits + bits ≤ n * bits := by rw [← Nat.succ_mul]; exact Nat.mul_le_mul_right _ hlt
    omega
   have HLE := Aside0.mk hlen
   clear hlen
   by_cases hil : i < l.length
   ·have q5 : decide ((i : Int) < (l.length : Int)) = true := decide_eq_true (by omega)
    obtain ⟨x, hx⟩ : ∃ x, l[i]? = some x := ⟨l[i]'hil, List.getElem?_eq_getElem hil⟩
    obtain ⟨ux, x0, x1⟩ := HL.out i x hx
    have ux' := (World.cell?_of_block (a := ⟨g, o + i, none⟩) (HB.out.block g hg)).trans ux
    have i0 : (0 : Int) ≤ (i : Int) := by omega
    have i1 : (i : Int) < (l.length : Int) := by omega
    have HX := Aside0.mk hx
    clear hx ux
    go_wp2_with fail
    obtain ⟨X, hX⟩ : ∃ X : Nat, X = x.toNat := ⟨_, rfl⟩
    have e1 : x = (X : Int) := by omega
    subst e1
    clear hX
    refine (rput_any _ p _ X bits HW.out (by omega) hb HLE.out).mono ?_
    rintro e w1 ⟨rfl, hW1, hB1⟩
    have HW1 := Aside0.mk hW1
    have HB1 := Aside0.mk (HB.out.trans hB1)
    clear hW1 hB1 ux'
    go_wp2_with fail
    refine ⟨⟨i + 1, by simp, by omega, ⟨?_⟩, HB1⟩, by simp [intOf]; omega⟩
    rw [rowBits_succ, ← List.append_assoc, show l.getD i 0 = (X : Int) by simp [HX.out], Int.toNat_natCast]
    exact HW1.out
   ·have q5 : decide ((i : Int) < (l.length : Int)) = false := decide_eq_false (by omega)
    go_wp2_with fail
    refine (rput_any _ p _ 0 bits HW.out (by omega) hb HLE.out).mono ?_
    rintro e w1 ⟨rfl, hW1, hB1⟩
    have HW1 := Aside0.mk hW1
    have HB1 := Aside0.mk (HB.out.trans hB1)
    clear hW1 hB1
    go_wp2_with fail
    refine ⟨⟨i + 1, by simp, by omega, ⟨?_⟩, HB1⟩, by simp [intOf]; omega⟩
    rw [rowBits_succ, ← List.append_assoc, show l.getD i 0 = 0 by simp [List.getElem?_eq_none (Nat.not_lt.1 hil)]]
    exact HW1.out
  ·have q4 : decide ((i : Int) < (n : Int)) = false := decide_eq_false (by omega)
   have hin : i = n := by omega
   rw [hin] at HW
   clear hin
   go_wp2_with fail
   go_end0
   exact ⟨rfl, HW.out, HB.out⟩
set_option maxHeartbeats 4000000 in
theorem alike1 (w : World) (ga : Nat) (k0 : w.cell? ⟨ga, 0, none⟩ = some (.int .i64 1)) (k1 : w.cell? ⟨ga, 1, none⟩ = some (.int .i64 0)) : Calls Try.prog 34 #[.slice (some ⟨ga, 0, none⟩) 3 3, .int .i64 0] w fun e w' => e = .returned (.int .i64 1) ∧ Drawn0 w w' := by
 go_enter Try.func34, Try.ntmps34
 go_wp2_with fail
 go_loopw [5] (fun v5 wr => ∃ n : Nat, v5 = .int .i64 n ∧ n ≤ 1 ∧ Aside0 (Drawn0 w wr)) (fun v _ => 2 - (intOf v).toNat)
 case atStart => exact ⟨0, rfl, by omega, ⟨⟨0, rfl⟩⟩⟩
 case round =>
  obtain ⟨n, rfl, hn, HD⟩ := hrel
  have k0' : wr.cell? ⟨ga, 0, none⟩ = some (.int .i64 1) := by obtain ⟨m, rfl⟩ := HD.out; exact k0
  have k1' : wr.cell? ⟨ga, 1, none⟩ = some (.int .i64 0) := by obtain ⟨m, rfl⟩ := HD.out; exact k1
  rcases (show n = 0 ∨ n = 1 by omega) with rfl | rfl
  ·go_wp2_with fail
   go_region
   go_wp2_with fail
   exact ⟨⟨1, by simp, by omega, ⟨by obtain ⟨m, rfl⟩ := HD.out; exact ⟨m + 1, rfl⟩⟩⟩, by simp [intOf]⟩
  ·go_wp2_with fail
   go_region
   go_wp2_with fail
   go_ret
   exact ⟨rfl, by obtain ⟨m, rfl⟩ := HD.out; exact ⟨m + 1, rfl⟩⟩
set_option maxHeartbeats 8000000 in
set_option maxRecDepth 100000 in
theorem good1 (w : World) (ga gb : Nat) (ka : w.heap[ga]? = some (.cells #[.int .i64 1, .int .i64 0, .int .i64 1] 3 (0, 0))) (kb : w.heap[gb]? = some (.cells #[.int .i64 4, .int .i64 8] 3 (0, 0))) : Calls Try.prog 33 #[.agg #[.int .u32 0, .int .u32 0, .int .i64 5, .int .i64 2, .int .i64 0, .slice (some ⟨ga, 0, none⟩) 3 3, .slice (some ⟨gb, 0, none⟩) 2 2]] w fun e w' => e = .returned (.bool true) ∧ Below w.heap.size w w' := by
 have la := blk_lt ka
 have lb := blk_lt kb
 have a0 := blk_cell ka 0
 have a1 := blk_cell ka 1
 have a2 := blk_cell ka 2
 have b0 := blk_cell kb 0
 have b1 := blk_cell kb 1
 simp only [List.getElem?_toArray, List.getElem?_cons_zero, List.getElem?_cons_succ] at a0 a1 a2 b0 b1
 have za0 : ∀ o, (w.alloc o).cell? ⟨ga, 0, none⟩ = some (.int .i64 1) := fun o => (World.cell?_alloc_past _ _ _ la).trans a0
 have za1 : ∀ o, (w.alloc o).cell? ⟨ga, 1, none⟩ = some (.int .i64 0) := fun o => (World.cell?_alloc_past _ _ _ la).trans a1
 have za2 : ∀ o, (w.alloc o).cell? ⟨ga, 2, none⟩ = some (.int .i64 1) := fun o => (World.cell?_alloc_past _ _ _ la).trans a2
 have zb0 : ∀ o, (w.alloc o).cell? ⟨gb, 0, none⟩ = some (.int .i64 4) := fun o => (World.cell?_alloc_past _ _ _ lb).trans b0
 have zb1 : ∀ o, (w.alloc o).cell? ⟨gb, 1, none⟩ = some (.int .i64 8) := fun o => (World.cell?_alloc_past _ _ _ lb).trans b1
 clear a0 a1 a2 b0 b1 ka kb
 go_enter Try.func33, Try.ntmps33
 go_wp2_with fail
 go_loop [3, 4, 5] (fun v3 v4 _ => (v4 = .int .i64 0 ∧ v3 = .int .i64 0) ∨ (v4 = .int .i64 1 ∧ v3 = .int .i64 1) ∨ (v4 = .int .i64 2 ∧ v3 = .int .i64 1) ∨ (v4 = .int .i64 3 ∧ v3 = .int .i64 2)) (fun _ v _ => 3 - (intOf v).toNat)
 case atStart => exact .inl ⟨rfl, rfl⟩
 case round =>
  rcases hrel with ⟨rfl, rfl⟩ | ⟨rfl, rfl⟩ | ⟨rfl, rfl⟩ | ⟨rfl, rfl⟩
  ·go_wp2_with fail
   exact ⟨.inr (.inl ⟨rfl, rfl⟩), by simp [intOf]⟩
  ·go_wp2_with fail
   exact ⟨.inr (.inr (.inl ⟨rfl, rfl⟩)), by simp [intOf]⟩
  ·go_wp2_with fail
   exact ⟨.inr (.inr (.inr ⟨rfl, rfl⟩)), by simp [intOf]⟩
  ·go_wp2_with fail
   go_ret
   exact ⟨rfl, (Below.refl _ _).alloc (Nat.le_refl _) _⟩
structure ES (w0 w : World) (g1 ga gb p : Nat) (L : List Bool) : Prop where
 wr : WrIs w p 123 5 L
 k1 : w.heap[g1]? = some (.cells #[.int .u32 0, .int .u32 0, .int .i64 5, .int .i64 2, .int .i64 0, .slice (some ⟨ga, 0, none⟩) 3 3, .slice (some ⟨gb, 0, none⟩) 2 2] 63 (0, 0))
 ka : w.heap[ga]? = some (.cells #[.int .i64 1, .int .i64 0, .int .i64 1] 3 (0, 0))
 kb : w.heap[gb]? = some (.cells #[.int .i64 4, .int .i64 8] 3 (0, 0))
 bel : Below w0.heap.size w0 w
 l1 : g1 < p
 la : ga < p
 lb : gb < p
 wp : w0.heap.size ≤ p
theorem ES.put {w0 w w' : World} {g1 ga gb p : Nat} {L L' : List Bool} (h : ES w0 w g1 ga gb p L) (hW : WrIs w' p 123 5 L') (hB : Below p w w') : ES w0 w' g1 ga gb p L' :=
 ⟨hW, (hB.block g1 h.l1).trans h.k1, (hB.block ga h.la).trans h.ka, (hB.block gb h.lb).trans h.kb, h.bel.trans (hB.mono h.wp), h.l1, h.la, h.lb, h.wp⟩
theorem hd_below (w : World) (n : Nat) : Below w.heap.size w (w.drewN n) := Drawn0.below ⟨n, rfl⟩
theorem ES.drawn {w0 w w' : World} {g1 ga gb p : Nat} {L : List Bool} (h : ES w0 w g1 ga gb p L) (hd : Drawn0 w w') : ES w0 w' g1 ga gb p L := by
 obtain ⟨n, rfl⟩ := hd
 exact ⟨h.wr, h.k1, h.ka, h.kb, h.bel.trans ((hd_below w n).mono h.bel.size), h.l1, h.la, h.lb, h.wp⟩
def encH : List Bool := toBits 32 0 ++ toBits 32 0 ++ toBits 16 5 ++ toBits 16 3 ++ toBits 24 2 ++ toBits 8 0
def encC : List Bool := encH ++ toBits 2 2 ++ rowBits [1, 0, 1] 1 14
def encD : List Bool := encC ++ toBits 8 4 ++ toBits 8 8
def wakeB : ByteArray := ⟨#[0, 0, 0, 0, 0, 0, 0, 0, 0, 5, 0, 3, 0, 0, 2, 0, 168, 0, 4, 8]⟩
theorem enc_text : strOfNums (packI (encD ++ List.replicate ((32 - encD.length % 32) % 32) false)) = wakeB := by decide +kernel
theorem encD_length : encD.length = 160 := by decide +kernel
set_option maxHeartbeats 16000000 in
set_option maxRecDepth 100000 in
theorem encode1 (w : World) (ga gb : Nat) (ka : w.heap[ga]? = some (.cells #[.int .i64 1, .int .i64 0, .int .i64 1] 3 (0, 0))) (kb : w.heap[gb]? = some (.cells #[.int .i64 4, .int .i64 8] 3 (0, 0))) : Calls Try.prog 16 #[.agg #[.int .u32 0, .int .u32 0, .int .i64 5, .int .i64 2, .int .i64 0, .slice (some ⟨ga, 0, none⟩) 3 3, .slice (some ⟨gb, 0, none⟩) 2 2]] w fun e w' => e = .returned (.tuple #[.string wakeB, .int .i64 0]) ∧ Below w.heap.size w w' := by
 have la := blk_lt ka
 have lb := blk_lt kb
 have KA := Aside0.mk ((Below.heap_alloc w (.cells #[.int .u32 0, .int .u32 0, .int .i64 5, .int .i64 2, .int .i64 0, .slice (some ⟨ga, 0, none⟩) 3 3, .slice (some ⟨gb, 0, none⟩) 2 2] 63) ga la).trans ka)
 have KB := Aside0.mk ((Below.heap_alloc w (.cells #[.int .u32 0, .int .u32 0, .int .i64 5, .int .i64 2, .int .i64 0, .slice (some ⟨ga, 0, none⟩) 3 3, .slice (some ⟨gb, 0, none⟩) 2 2] 63) gb lb).trans kb)
 have K1 := Aside0.mk (blk_new w (.cells #[.int .u32 0, .int .u32 0, .int .i64 5, .int .i64 2, .int .i64 0, .slice (some ⟨ga, 0, none⟩) 3 3, .slice (some ⟨gb, 0, none⟩) 2 2] 63))
 have HB := Aside0.mk ((Below.refl w.heap.size w).alloc (Nat.le_refl _) (.cells #[.int .u32 0, .int .u32 0, .int .i64 5, .int .i64 2, .int .i64 0, .slice (some ⟨ga, 0, none⟩) 3 3, .slice (some ⟨gb, 0, none⟩) 2 2] 63))
 have hs : w.heap.size < (w.alloc (.cells #[.int .u32 0, .int .u32 0, .int .i64 5, .int .i64 2, .int .i64 0, .slice (some ⟨ga, 0, none⟩) 3 3, .slice (some ⟨gb, 0, none⟩) 2 2] 63)).heap.size := by simp
 clear ka kb
 go_enter Try.func16, Try.ntmps16
 go_upto_region 1 with fail
 generalize w.alloc (.cells #[.int .u32 0, .int .u32 0, .int .i64 5, .int .i64 2, .int .i64 0, .slice (some ⟨ga, 0, none⟩) 3 3, .slice (some ⟨gb, 0, none⟩) 2 2] 63) = w1 at *
 obtain ⟨g1, hg1⟩ : ∃ g, g = w.heap.size := ⟨_, rfl⟩
 rw [← hg1] at K1 hs ⊢
 have hwg1 : w.heap.size ≤ g1 := Nat.le_of_eq hg1.symm
 clear hg1
 have c0 := blk_cell K1.out 0
 have c1 := blk_cell K1.out 1
 have c2 := blk_cell K1.out 2
 have c3 := blk_cell K1.out 3
 have c4 := blk_cell K1.out 4
 have c5 := blk_cell K1.out 5
 have c6 := blk_cell K1.out 6
 simp only [List.getElem?_toArray, List.getElem?_cons_zero, List.getElem?_cons_succ] at c0 c1 c2 c3 c4 c5 c6
 go_wp2_with fail
 refine (good1 w1 ga gb KA.out KB.out).mono ?_
 rintro e w2 ⟨rfl, hb⟩
 replace KA := Aside0.mk ((hb.block ga (blk_lt KA.out)).trans KA.out)
 replace KB := Aside0.mk ((hb.block gb (blk_lt KB.out)).trans KB.out)
 replace K1 := Aside0.mk ((hb.block g1 (blk_lt K1.out)).trans K1.out)
 replace HB := Aside0.mk (HB.out.trans (hb.mono HB.out.size))
 clear hb c0 c1 c2 c3 c4 c5 c6 hs
 go_wp2_with fail
 refine (rwrite_any w2).mono ?_
 rintro e w3 ⟨rfl, hW, hb⟩
 obtain ⟨p, hp⟩ : ∃ p, p = w2.heap.size := ⟨_, rfl⟩
 have HE : Aside0 (ES w w3 g1 ga gb p []) := ⟨⟨by rw [hp]; exact hW, (hb.block g1 (blk_lt K1.out)).trans K1.out, (hb.block ga (blk_lt KA.out)).trans KA.out, (hb.block gb (blk_lt KB.out)).trans KB.out, HB.out.trans (hb.mono HB.out.size), by rw [hp]; exact blk_lt K1.out, by rw [hp]; exact blk_lt KA.out, by rw [hp]; exact blk_lt KB.out, by rw [hp]; exact HB.out.size⟩⟩
 rw [← hp]
 clear hW hb hp KA KB K1 HB
 have c0 := blk_cell HE.out.k1 0
 have c1 := blk_cell HE.out.k1 1
 have c2 := blk_cell HE.out.k1 2
 have c3 := blk_cell HE.out.k1 3
 have c4 := blk_cell HE.out.k1 4
 have c5 := blk_cell HE.out.k1 5
 have c6 := blk_cell HE.out.k1 6
 simp only [List.getElem?_toArray, List.getElem?_cons_zero, List.getElem?_cons_succ] at c0 c1 c2 c3 c4 c5 c6
 go_wp2_with fail
 refine (rput_any w3 p _ 0 32 HE.out.wr (by omega) (by omega) (by decide +kernel)).mono ?_
 rintro e w4 ⟨rfl, hW, hB⟩
 replace HE := Aside0.mk (HE.out.put hW hB)
 clear hW hB c0 c1 c2 c3 c4 c5 c6
 have c0 := blk_cell HE.out.k1 0
 have c1 := blk_cell HE.out.k1 1
 have c2 := blk_cell HE.out.k1 2
 have c3 := blk_cell HE.out.k1 3
 have c4 := blk_cell HE.out.k1 4
 have c5 := blk_cell HE.out.k1 5
 have c6 := blk_cell HE.out.k1 6
 simp only [List.getElem?_toArray, List.getElem?_cons_zero, List.getElem?_cons_succ] at c0 c1 c2 c3 c4 c5 c6
 go_wp2_with fail
 refine (rput_any w4 p _ 0 32 HE.out.wr (by omega) (by omega) (by decide +kernel)).mono ?_
 rintro e w5 ⟨rfl, hW, hB⟩
 replace HE := Aside0.mk (HE.out.put hW hB)
 clear hW hB c0 c1 c2 c3 c4 c5 c6
 have c0 := blk_cell HE.out.k1 0
 have c1 := blk_cell HE.out.k1 1
 have c2 := blk_cell HE.out.k1 2
 have c3 := blk_cell HE.out.k1 3
 have c4 := blk_cell HE.out.k1 4
 have c5 := blk_cell HE.out.k1 5
 have c6 := blk_cell HE.out.k1 6
 simp only [List.getElem?_toArray, List.getElem?_cons_zero, List.getElem?_cons_succ] at c0 c1 c2 c3 c4 c5 c6
 go_wp2_with fail
 refine (rput_any w5 p _ 5 16 HE.out.wr (by omega) (by omega) (by decide +kernel)).mono ?_
 rintro e w6 ⟨rfl, hW, hB⟩
 replace HE := Aside0.mk (HE.out.put hW hB)
 clear hW hB c0 c1 c2 c3 c4 c5 c6
 have c0 := blk_cell HE.out.k1 0
 have c1 := blk_cell HE.out.k1 1
 have c2 := blk_cell HE.out.k1 2
 have c3 := blk_cell HE.out.k1 3
 have c4 := blk_cell HE.out.k1 4
 have c5 := blk_cell HE.out.k1 5
 have c6 := blk_cell HE.out.k1 6
 simp only [List.getElem?_toArray, List.getElem?_cons_zero, List.getElem?_cons_succ] at c0 c1 c2 c3 c4 c5 c6
 go_wp2_with fail
 refine (rput_any w6 p _ 3 16 HE.out.wr (by omega) (by omega) (by decide +kernel)).mono ?_
 rintro e w7 ⟨rfl, hW, hB⟩
 replace HE := Aside0.mk (HE.out.put hW hB)
 clear hW hB c0 c1 c2 c3 c4 c5 c6
 have c0 := blk_cell HE.out.k1 0
 have c1 := blk_cell HE.out.k1 1
 have c2 := blk_cell HE.out.k1 2
 have c3 := blk_cell HE.out.k1 3
 have c4 := blk_cell HE.out.k1 4
 have c5 := blk_cell HE.out.k1 5
 have c6 := blk_cell HE.out.k1 6
 simp only [List.getElem?_toArray, List.getElem?_cons_zero, List.getElem?_cons_succ] at c0 c1 c2 c3 c4 c5 c6
 go_wp2_with fail
 refine (rput_any w7 p _ 2 24 HE.out.wr (by omega) (by omega) (by decide +kernel)).mono ?_
 rintro e w8 ⟨rfl, hW, hB⟩
 replace HE := Aside0.mk (HE.out.put hW hB)
 clear hW hB c0 c1 c2 c3 c4 c5 c6
 have c0 := blk_cell HE.out.k1 0
 have c1 := blk_cell HE.out.k1 1
 have c2 := blk_cell HE.out.k1 2
 have c3 := blk_cell HE.out.k1 3
 have c4 := blk_cell HE.out.k1 4
 have c5 := blk_cell HE.out.k1 5
 have c6 := blk_cell HE.out.k1 6
 simp only [List.getElem?_toArray, List.getElem?_cons_zero, List.getElem?_cons_succ] at c0 c1 c2 c3 c4 c5 c6
 go_wp2_with fail
 refine (rput_any w8 p _ 0 8 HE.out.wr (by omega) (by omega) (by decide +kernel)).mono ?_
 rintro e w9 ⟨rfl, hW, hB⟩
 replace HE := Aside0.mk (HE.out.put hW hB)
 clear hW hB c0 c1 c2 c3 c4 c5 c6
 have c0 := blk_cell HE.out.k1 0
 have c1 := blk_cell HE.out.k1 1
 have c2 := blk_cell HE.out.k1 2
 have c3 := blk_cell HE.out.k1 3
 have c4 := blk_cell HE.out.k1 4
 have c5 := blk_cell HE.out.k1 5
 have c6 := blk_cell HE.out.k1 6
 simp only [List.getElem?_toArray, List.getElem?_cons_zero, List.getElem?_cons_succ] at c0 c1 c2 c3 c4 c5 c6
 replace HE := Aside0.mk (show ES w w9 g1 ga gb p encH from by simpa [encH] using HE.out)
 go_wp2_with fail
 clear c0 c1 c2 c3 c4 c5 c6
 go_loopw [6, 7, 8, 9, 10] (fun v6 _ _ _ _ wr => (v6 = .int .i64 0 ∧ Aside0 (ES w wr g1 ga gb p encH)) ∨ (v6 = .int .i64 3 ∧ Aside0 (ES w wr g1 ga gb p encC))) (fun v _ _ _ _ _ => 3 - (intOf v).toNat)
 case atStart => exact .inl ⟨rfl, HE⟩
 case round =>
  clear HE
  rcases hrel with ⟨rfl, HE⟩ | ⟨rfl, HE⟩
  ·have a0 := blk_cell HE.out.ka 0
   have a1 := blk_cell HE.out.ka 1
   have a2 := blk_cell HE.out.ka 2
   simp only [List.getElem?_toArray, List.getElem?_cons_zero, List.getElem?_cons_succ] at a0 a1 a2
   go_wp2_with fail
   refine (alike1 _ ga a0 a1).mono ?_
   rintro e wA ⟨rfl, hd⟩
   replace HE := Aside0.mk (HE.out.drawn hd)
   clear hd a0 a1 a2
   have a0 := blk_cell HE.out.ka 0
   have a1 := blk_cell HE.out.ka 1
   have a2 := blk_cell HE.out.ka 2
   simp only [List.getElem?_toArray, List.getElem?_cons_zero, List.getElem?_cons_succ] at a0 a1 a2
   go_wp2_with fail
   go_loop [9, 10] (fun v9 v10 => v9 = .bool false ∧ (v10 = .int .i64 0 ∨ v10 = .int .i64 1 ∨ v10 = .int .i64 2 ∨ v10 = .int .i64 3)) (fun _ v => 3 - (intOf v).toNat)
   case atStart => exact ⟨rfl, .inl rfl⟩
   case round =>
    obtain ⟨rfl, rfl | rfl | rfl | rfl⟩ := hrel
    ·go_wp2_with fail
     exact ⟨⟨rfl, .inr (.inl rfl)⟩, by simp [intOf]⟩
    ·go_wp2_with fail
     exact ⟨⟨rfl, .inr (.inr (.inl rfl))⟩, by simp [intOf]⟩
    ·go_wp2_with fail
     exact ⟨⟨rfl, .inr (.inr (.inr rfl))⟩, by simp [intOf]⟩
    ·go_wp2_with fail
     refine (rput_any _ p encH 2 2 HE.out.wr (by omega) (by omega) (by decide +kernel)).mono ?_
     rintro e wB ⟨rfl, hW, hB⟩
     replace HE := Aside0.mk (HE.out.put hW hB)
     clear hW hB a0 a1 a2
     have a0 := blk_cell HE.out.ka 0
     have a1 := blk_cell HE.out.ka 1
     have a2 := blk_cell HE.out.ka 2
     simp only [List.getElem?_toArray, List.getElem?_cons_zero, List.getElem?_cons_succ] at a0 a1 a2
     go_wp2_with fail
     refine (rrow_any wB p ga 0 3 (encH ++ toBits 2 2) [1, 0, 1] 14 1 HE.out.wr HE.out.la (by
      intro i x hx
      rcases (show i = 0 ∨ i = 1 ∨ i = 2 ∨ 3 ≤ i by omega) with rfl | rfl | rfl | h
      ·simp at hx; subst hx; exact ⟨a0, by omega, by omega⟩
      ·simp at hx; subst hx; exact ⟨a1, by omega, by omega⟩
      ·simp at hx; subst hx; exact ⟨a2, by omega, by omega⟩
      ·rw [List.getElem?_eq_none (by simpa using h)] at hx; cases hx) (by omega) (by omega) (by decide +kernel) (by decide)).mono ?_
     rintro e wC ⟨rfl, hW, hB⟩
     replace HE := Aside0.mk (show ES w wC g1 ga gb p encC from HE.out.put hW hB)
     clear hW hB a0 a1 a2
     go_wp2_with fail
     exact ⟨.inr ⟨rfl, HE⟩, by simp [intOf]; omega⟩
  ·go_wp2_with fail
   go_loopw [11, 12] (fun v11 v12 wr => (v12 = .int .i64 0 ∧ v11 = .int .i64 0 ∧ Aside0 (ES w wr g1 ga gb p encC)) ∨ (v12 = .int .i64 1 ∧ v11 = .int .i64 1 ∧ Aside0 (ES w wr g1 ga gb p (encC ++ toBits 8 4))) ∨ (v12 = .int .i64 2 ∧ v11 = .int .i64 1 ∧ Aside0 (ES w wr g1 ga gb p (encC ++ toBits 8 4))) ∨ (v12 = .int .i64 3 ∧ v11 = .int .i64 2 ∧ Aside0 (ES w wr g1 ga gb p encD))) (fun _ v _ => 3 - (intOf v).toNat)
   case atStart => exact .inl ⟨rfl, rfl, HE⟩
   case round =>
    clear HE
    rcases hrel with ⟨rfl, rfl, HE⟩ | ⟨rfl, rfl, HE⟩ | ⟨rfl, rfl, HE⟩ | ⟨rfl, rfl, HE⟩
    ·have a0 := blk_cell HE.out.ka 0
     simp only [List.getElem?_toArray, List.getElem?_cons_zero, List.getElem?_cons_succ] at a0
     go_wp2_with fail
     replace HE : Aside0 (ES w wr.drew g1 ga gb p encC) := ⟨HE.out.drawn ⟨1, rfl⟩⟩
     have c6 := blk_cell HE.out.k1 6
     have b0 := blk_cell HE.out.kb 0
     have a0 := blk_cell HE.out.ka 0
     simp only [List.getElem?_toArray, List.getElem?_cons_zero, List.getElem?_cons_succ] at c6 b0 a0
     have CP : Aside0 (Calls Try.prog 30 #[.pointer (some ⟨p, 0, none⟩), .int .u32 (IntKind.u32.wrap 4), .int .i64 (wrap64 8)] wr.drew fun e w' => e = .returned (.tuple #[]) ∧ WrIs w' p 123 5 (encC ++ toBits 8 4) ∧ Below p wr.drew w') := ⟨by
      rw [show wrap64 8 = ((8 : Nat) : Int) by unfold wrap64; omega, show IntKind.u32.wrap 4 = ((4 : Nat) : Int) by rw [IntKind.wrap_u32]; omega]
      exact rput_any _ p _ 4 8 HE.out.wr (by omega) (by omega) (by decide +kernel)⟩
     refine start_ (n := 13) (S := fun w' => w'.cell? ⟨g1, 6, none⟩ = some (.slice (some ⟨gb, 0, none⟩) 2 2) ∧ w'.cell? ⟨gb, 0, none⟩ = some (.int .i64 4) ∧ w'.cell? ⟨ga, 0, none⟩ = some (.int .i64 1)) (ds := [12]) #[false, false, false, false, false, false, false, false, false, false, false, false, false] (by kernel_rfl) rfl rfl ⟨c6, b0, a0⟩ (fun hHeld => ?_)
     refine pure_ (i := 0) (N := some 139) (v := ?_) (a' := ?_) #[true, false, false, false, false, false, false, false, false, false, false, false, false] rfl rfl (by kernel_rfl) (fun _ _ _ h => h) (Or.inl ⟨by rfl, ?_⟩) ?_ ?_
     rotate_left
     ·intro w'
      go_simp
      with_reducible rfl
     rotate_left
     ·simp only [Act.put, List.setIfInBounds_toArray, List.set_cons_zero, List.set_cons_succ, i64_w, i32_w]
      rfl
     refine pure_ (i := 1) (N := some 140) (v := ?_) (a' := ?_) #[true, true, false, false, false, false, false, false, false, false, false, false, false] rfl rfl (by kernel_rfl) (fun _ _ _ h => h) (Or.inl ⟨by rfl, ?_⟩) ?_ ?_
     rotate_left
     ·intro w'
      go_simp
      with_reducible rfl
     rotate_left
     ·simp only [Act.put, List.setIfInBounds_toArray, List.set_cons_zero, List.set_cons_succ, i64_w, i32_w]
      rfl
     refine pure_ (i := 3) (N := some 142) (v := ?_) (a' := ?_) #[true, true, false, true, false, false, false, false, false, false, false, false, false] rfl rfl (by kernel_rfl) (fun _ _ _ h => h) (Or.inl ⟨by rfl, ?_⟩) ?_ ?_
     rotate_left
     ·intro w'
      go_simp
      with_reducible rfl
     rotate_left
     ·simp only [Act.put, List.setIfInBounds_toArray, List.set_cons_zero, List.set_cons_succ, i64_w, i32_w]
      rfl
     refine pure_ (i := 7) (N := some 146) (v := ?_) (a' := ?_) #[true, true, false, true, false, false, false, true, false, false, false, false, false] rfl rfl (by kernel_rfl) (fun _ _ _ h => h) (Or.inl ⟨by rfl, ?_⟩) ?_ ?_
     rotate_left
     ·intro w'
      go_simp
      with_reducible rfl
     rotate_left
     ·simp only [Act.put, List.setIfInBounds_toArray, List.set_cons_zero, List.set_cons_succ, i64_w, i32_w]
      rfl
     refine pure_ (i := 8) (N := some 147) (v := ?_) (a' := ?_) #[true, true, false, true, false, false, false, true, true, false, false, false, false] rfl rfl (by kernel_rfl) (fun _ _ _ h => h) (Or.inl ⟨by rfl, ?_⟩) ?_ ?_
     rotate_left
     ·intro w'
      go_simp
      with_reducible rfl
     rotate_left
     ·simp only [Act.put, List.setIfInBounds_toArray, List.set_cons_zero, List.set_cons_succ, i64_w, i32_w]
      rfl
     refine pure_ (i := 9) (N := some 148) (v := ?_) (a' := ?_) #[true, true, false, true, false, false, false, true, true, true, false, false, false] rfl rfl (by kernel_rfl) (fun _ _ _ h => h) (Or.inl ⟨by rfl, ?_⟩) ?_ ?_
     rotate_left
     ·intro w'
      go_simp
      with_reducible rfl
     rotate_left
     ·simp only [Act.put, List.setIfInBounds_toArray, List.set_cons_zero, List.set_cons_succ, i64_w, i32_w]
      rfl
     refine take_ (i := 2) (N := some 141) (v := ?_) (a' := ?_) #[true, true, true, true, false, false, false, true, true, true, false, false, false] rfl rfl (by kernel_rfl) (fun _ _ _ h => h) (Or.inl ⟨by rfl, ?_⟩) hHeld ?_ ?_
     rotate_left
     ·rintro w' ⟨s0, s1, s2⟩
      go_simp
      with_reducible rfl
     rotate_left
     ·simp only [Act.put, List.setIfInBounds_toArray, List.set_cons_zero, List.set_cons_succ, i64_w, i32_w]
      rfl
     refine pure_ (i := 4) (N := some 143) (v := ?_) (a' := ?_) #[true, true, true, true, true, false, false, true, true, true, false, false, false] rfl rfl (by kernel_rfl) (fun _ _ _ h => h) (Or.inl ⟨by rfl, ?_⟩) ?_ ?_
     rotate_left
     ·intro w'
      go_simp
      with_reducible rfl
     rotate_left
     ·simp only [Act.put, List.setIfInBounds_toArray, List.set_cons_zero, List.set_cons_succ, i64_w, i32_w]
      rfl
     refine take_ (i := 5) (N := some 144) (v := ?_) (a' := ?_) #[true, true, true, true, true, true, false, true, true, true, false, false, false] rfl rfl (by kernel_rfl) (fun _ _ _ h => h) (Or.inl ⟨by rfl, ?_⟩) hHeld ?_ ?_
     rotate_left
     ·rintro w' ⟨s0, s1, s2⟩
      go_simp
      with_reducible rfl
     rotate_left
     ·simp only [Act.put, List.setIfInBounds_toArray, List.set_cons_zero, List.set_cons_succ, i64_w, i32_w]
      rfl
     refine pure_ (i := 6) (N := some 145) (v := ?_) (a' := ?_) #[true, true, true, true, true, true, true, true, true, true, false, false, false] rfl rfl (by kernel_rfl) (fun _ _ _ h => h) (Or.inl ⟨by rfl, ?_⟩) ?_ ?_
     rotate_left
     ·intro w'
      go_simp
      with_reducible rfl
     rotate_left
     ·simp only [Act.put, List.setIfInBounds_toArray, List.set_cons_zero, List.set_cons_succ, i64_w, i32_w]
      rfl
     refine take_ (i := 10) (N := some 149) (v := ?_) (a' := ?_) #[true, true, true, true, true, true, true, true, true, true, true, false, false] rfl rfl (by kernel_rfl) (fun _ _ _ h => h) (Or.inl ⟨by rfl, ?_⟩) hHeld ?_ ?_
     rotate_left
     ·rintro w' ⟨s0, s1, s2⟩
      go_simp
      with_reducible rfl
     rotate_left
     ·simp only [Act.put, List.setIfInBounds_toArray, List.set_cons_zero, List.set_cons_succ, i64_w, i32_w]
      rfl
     refine pure_ (i := 11) (N := some 150) (v := ?_) (a' := ?_) #[true, true, true, true, true, true, true, true, true, true, true, true, false] rfl rfl (by kernel_rfl) (fun _ _ _ h => h) (Or.inl ⟨by rfl, ?_⟩) ?_ ?_
     rotate_left
     ·intro w'
      go_simp
      with_reducible rfl
     rotate_left
     ·simp only [Act.put, List.setIfInBounds_toArray, List.set_cons_zero, List.set_cons_succ, i64_w, i32_w]
      rfl
     refine last_ (i := 12) (N := some 151) #[true, true, true, true, true, true, true, true, true, true, true, true, true] rfl rfl (by kernel_rfl) (by decide) (fun K hK => ?_)
     refine goes_ Try.func30 (by kernel_rfl) rfl #[.pointer (some ⟨p, 0, none⟩), .int .u32 (IntKind.u32.wrap 4), .int .i64 (wrap64 8)] (by rfl) rfl rfl (by simp only [List.map_toArray, List.map_cons, List.map_nil]; rfl) ?_
     with_reducible refine (CP.out).mono ?_
     rintro e wB ⟨rfl, hW, hB⟩
     refine ⟨_, rfl, ?_⟩
     have HE2 := Aside0.mk (HE.out.put hW hB)
     clear hW hB
     refine hK.out _ _ ?_
     clear hK K
     refine norm_ (a' := ?_) ?_ ?_
     rotate_left
     ·show Act.put _ (some 151) _ = _
      simp only [Act.put, List.setIfInBounds_toArray, List.set_cons_zero, List.set_cons_succ, i64_w, i32_w]
      rfl
     refine done_ (by kernel_rfl) ?_
     clear c6 b0 a0 CP
     try clear hHeld
     have HE := HE2
     clear HE2
     go_wp2_with fail
     exact ⟨.inr (.inl ⟨rfl, rfl, HE⟩), by simp [intOf]⟩
    ·have a1 := blk_cell HE.out.ka 1
     simp only [List.getElem?_toArray, List.getElem?_cons_zero, List.getElem?_cons_succ] at a1
     go_wp2_with fail
     exact ⟨.inr (.inr (.inl ⟨rfl, rfl, HE⟩)), by simp [intOf]⟩
    ·have a0 := blk_cell HE.out.ka 2
     simp only [List.getElem?_toArray, List.getElem?_cons_zero, List.getElem?_cons_succ] at a0
     go_wp2_with fail
     replace HE : Aside0 (ES w wr.drew g1 ga gb p (encC ++ toBits 8 4)) := ⟨HE.out.drawn ⟨1, rfl⟩⟩
     have c6 := blk_cell HE.out.k1 6
     have b0 := blk_cell HE.out.kb 1
     have a0 := blk_cell HE.out.ka 2
     simp only [List.getElem?_toArray, List.getElem?_cons_zero, List.getElem?_cons_succ] at c6 b0 a0
     have CP : Aside0 (Calls Try.prog 30 #[.pointer (some ⟨p, 0, none⟩), .int .u32 (IntKind.u32.wrap 8), .int .i64 (wrap64 8)] wr.drew fun e w' => e = .returned (.tuple #[]) ∧ WrIs w' p 123 5 ((encC ++ toBits 8 4) ++ toBits 8 8) ∧ Below p wr.drew w') := ⟨by
      rw [show wrap64 8 = ((8 : Nat) : Int) by unfold wrap64; omega, show IntKind.u32.wrap 8 = ((8 : Nat) : Int) by rw [IntKind.wrap_u32]; omega]
      exact rput_any _ p _ 8 8 HE.out.wr (by omega) (by omega) (by decide +kernel)⟩
     refine start_ (n := 13) (S := fun w' => w'.cell? ⟨g1, 6, none⟩ = some (.slice (some ⟨gb, 0, none⟩) 2 2) ∧ w'.cell? ⟨gb, 1, none⟩ = some (.int .i64 8) ∧ w'.cell? ⟨ga, 2, none⟩ = some (.int .i64 1)) (ds := [12]) #[false, false, false, false, false, false, false, false, false, false, false, false, false] (by kernel_rfl) rfl rfl ⟨c6, b0, a0⟩ (fun hHeld => ?_)
     refine pure_ (i := 0) (N := some 139) (v := ?_) (a' := ?_) #[true, false, false, false, false, false, false, false, false, false, false, false, false] rfl rfl (by kernel_rfl) (fun _ _ _ h => h) (Or.inl ⟨by rfl, ?_⟩) ?_ ?_
     rotate_left
     ·intro w'
      go_simp
      with_reducible rfl
     rotate_left
     ·simp only [Act.put, List.setIfInBounds_toArray, List.set_cons_zero, List.set_cons_succ, i64_w, i32_w]
      rfl
     refine pure_ (i := 1) (N := some 140) (v := ?_) (a' := ?_) #[true, true, false, false, false, false, false, false, false, false, false, false, false] rfl rfl (by kernel_rfl) (fun _ _ _ h => h) (Or.inl ⟨by rfl, ?_⟩) ?_ ?_
     rotate_left
     ·intro w'
      go_simp
      with_reducible rfl
     rotate_left
     ·simp only [Act.put, List.setIfInBounds_toArray, List.set_cons_zero, List.set_cons_succ, i64_w, i32_w]
      rfl
     refine pure_ (i := 3) (N := some 142) (v := ?_) (a' := ?_) #[true, true, false, true, false, false, false, false, false, false, false, false, false] rfl rfl (by kernel_rfl) (fun _ _ _ h => h) (Or.inl ⟨by rfl, ?_⟩) ?_ ?_
     rotate_left
     ·intro w'
      go_simp
      with_reducible rfl
     rotate_left
     ·simp only [Act.put, List.setIfInBounds_toArray, List.set_cons_zero, List.set_cons_succ, i64_w, i32_w]
      rfl
     refine pure_ (i := 7) (N := some 146) (v := ?_) (a' := ?_) #[true, true, false, true, false, false, false, true, false, false, false, false, false] rfl rfl (by kernel_rfl) (fun _ _ _ h => h) (Or.inl ⟨by rfl, ?_⟩) ?_ ?_
     rotate_left
     ·intro w'
      go_simp
      with_reducible rfl
     rotate_left
     ·simp only [Act.put, List.setIfInBounds_toArray, List.set_cons_zero, List.set_cons_succ, i64_w, i32_w]
      rfl
     refine pure_ (i := 8) (N := some 147) (v := ?_) (a' := ?_) #[true, true, false, true, false, false, false, true, true, false, false, false, false] rfl rfl (by kernel_rfl) (fun _ _ _ h => h) (Or.inl ⟨by rfl, ?_⟩) ?_ ?_
     rotate_left
     ·intro w'
      go_simp
      with_reducible rfl
     rotate_left
     ·simp only [Act.put, List.setIfInBounds_toArray, List.set_cons_zero, List.set_cons_succ, i64_w, i32_w]
      rfl
     refine pure_ (i := 9) (N := some 148) (v := ?_) (a' := ?_) #[true, true, false, true, false, false, false, true, true, true, false, false, false] rfl rfl (by kernel_rfl) (fun _ _ _ h => h) (Or.inl ⟨by rfl, ?_⟩) ?_ ?_
     rotate_left
     ·intro w'
      go_simp
      with_reducible rfl
     rotate_left
     ·simp only [Act.put, List.setIfInBounds_toArray, List.set_cons_zero, List.set_cons_succ, i64_w, i32_w]
      rfl
     refine take_ (i := 2) (N := some 141) (v := ?_) (a' := ?_) #[true, true, true, true, false, false, false, true, true, true, false, false, false] rfl rfl (by kernel_rfl) (fun _ _ _ h => h) (Or.inl ⟨by rfl, ?_⟩) hHeld ?_ ?_
     rotate_left
     ·rintro w' ⟨s0, s1, s2⟩
      go_simp
      with_reducible rfl
     rotate_left
     ·simp only [Act.put, List.setIfInBounds_toArray, List.set_cons_zero, List.set_cons_succ, i64_w, i32_w]
      rfl
     refine pure_ (i := 4) (N := some 143) (v := ?_) (a' := ?_) #[true, true, true, true, true, false, false, true, true, true, false, false, false] rfl rfl (by kernel_rfl) (fun _ _ _ h => h) (Or.inl ⟨by rfl, ?_⟩) ?_ ?_
     rotate_left
     ·intro w'
      go_simp
      with_reducible rfl
     rotate_left
     ·simp only [Act.put, List.setIfInBounds_toArray, List.set_cons_zero, List.set_cons_succ, i64_w, i32_w]
      rfl
     refine take_ (i := 5) (N := some 144) (v := ?_) (a' := ?_) #[true, true, true, true, true, true, false, true, true, true, false, false, false] rfl rfl (by kernel_rfl) (fun _ _ _ h => h) (Or.inl ⟨by rfl, ?_⟩) hHeld ?_ ?_
     rotate_left
     ·rintro w' ⟨s0, s1, s2⟩
      go_simp
      with_reducible rfl
     rotate_left
     ·simp only [Act.put, List.setIfInBounds_toArray, List.set_cons_zero, List.set_cons_succ, i64_w, i32_w]
      rfl
     refine pure_ (i := 6) (N := some 145) (v := ?_) (a' := ?_) #[true, true, true, true, true, true, true, true, true, true, false, false, false] rfl rfl (by kernel_rfl) (fun _ _ _ h => h) (Or.inl ⟨by rfl, ?_⟩) ?_ ?_
     rotate_left
     ·intro w'
      go_simp
      with_reducible rfl
     rotate_left
     ·simp only [Act.put, List.setIfInBounds_toArray, List.set_cons_zero, List.set_cons_succ, i64_w, i32_w]
      rfl
     refine take_ (i := 10) (N := some 149) (v := ?_) (a' := ?_) #[true, true, true, true, true, true, true, true, true, true, true, false, false] rfl rfl (by kernel_rfl) (fun _ _ _ h => h) (Or.inl ⟨by rfl, ?_⟩) hHeld ?_ ?_
     rotate_left
     ·rintro w' ⟨s0, s1, s2⟩
      go_simp
      with_reducible rfl
     rotate_left
     ·simp only [Act.put, List.setIfInBounds_toArray, List.set_cons_zero, List.set_cons_succ, i64_w, i32_w]
      rfl
     refine pure_ (i := 11) (N := some 150) (v := ?_) (a' := ?_) #[true, true, true, true, true, true, true, true, true, true, true, true, false] rfl rfl (by kernel_rfl) (fun _ _ _ h => h) (Or.inl ⟨by rfl, ?_⟩) ?_ ?_
     rotate_left
     ·intro w'
      go_simp
      with_reducible rfl
     rotate_left
     ·simp only [Act.put, List.setIfInBounds_toArray, List.set_cons_zero, List.set_cons_succ, i64_w, i32_w]
      rfl
     refine last_ (i := 12) (N := some 151) #[true, true, true, true, true, true, true, true, true, true, true, true, true] rfl rfl (by kernel_rfl) (by decide) (fun K hK => ?_)
     refine goes_ Try.func30 (by kernel_rfl) rfl #[.pointer (some ⟨p, 0, none⟩), .int .u32 (IntKind.u32.wrap 8), .int .i64 (wrap64 8)] (by rfl) rfl rfl (by simp only [List.map_toArray, List.map_cons, List.map_nil]; rfl) ?_
     with_reducible refine (CP.out).mono ?_
     rintro e wB ⟨rfl, hW, hB⟩
     refine ⟨_, rfl, ?_⟩
     have HE2 := Aside0.mk (HE.out.put hW hB)
     clear hW hB
     refine hK.out _ _ ?_
     clear hK K
     refine norm_ (a' := ?_) ?_ ?_
     rotate_left
     ·show Act.put _ (some 151) _ = _
      simp only [Act.put, List.setIfInBounds_toArray, List.set_cons_zero, List.set_cons_succ, i64_w, i32_w]
      rfl
     refine done_ (by kernel_rfl) ?_
     clear c6 b0 a0 CP
     try clear hHeld
     have HE := HE2
     clear HE2
     go_wp2_with fail
     exact ⟨.inr (.inr (.inr ⟨rfl, rfl, HE⟩)), by simp [intOf]⟩
    ·go_wp2_with fail
     refine (ralign_any _ p encD HE.out.wr (by rw [encD_length]; omega)).mono ?_
     rintro e wA ⟨rfl, hW, hB⟩
     replace HE := Aside0.mk (HE.out.put hW hB)
     clear hW hB
     go_wp2_with fail
     refine (rtext_any _ p _ HE.out.wr).mono ?_
     rintro e wB ⟨rfl, hw⟩
     obtain rfl := hw.symm
     rw [enc_text]
     go_wp2_with fail
     go_ret2
     exact ⟨rfl, HE.out.bel⟩
end Go.Proofs.Ytgakmnholegbgaa.B
end
section
namespace Go.Proofs.Ytgakmnholegbgaa.B
open Go.RowKit Go.Proofs.YtgakmnholegbgaaW.PrintWords Go.Proofs.YtgakmnholegbgaaW.PrintLast Go.Proofs.YtgakmnholegbgaaW.PrintMore
set_option linter.unusedVariables false
set_option linter.unusedSimpArgs false
def wakePF : P3 := (15, 205, wakeB)
def wakeT : ByteArray := ⟨#[143, 205, 0, 5, 0, 0, 0, 0, 0, 0, 0, 0, 0, 5, 0, 3, 0, 0, 2, 0, 168, 0, 4, 8]⟩
theorem wakeF_join : joinP [wakePF] = (wakeT, 0) := by decide +kernel
theorem wakeF_split : splitP wakeT = ([wakePF], 0) := (split_join [wakePF] _ wakeF_join).1
theorem wakeF_stats : statsR wakeB 128 3 = .ok ([1, 0, 1], 144) := by
 have h : chunkP wakeB 128 3 = ([1, 0, 1], 0) := by decide +kernel
 rw [statsR_go (by decide) (by rw [h]), h]
 show (statsR wakeB 144 0).map _ = _
 rw [statsR_end]
 rfl
theorem wakeF_twcc : twccP wakeB = (⟨0, 0, 5, 2, 0, [1, 0, 1], [4, 8]⟩, 0) := by
 have hd : deltasR wakeB 144 [1, 0, 1] = some ([4, 8], 160) := by decide +kernel
 have hn : 3 = rdBits wakeB 80 16 := by decide +kernel
 rw [tw_ok (s := wakeB) (n := 3) (a := 144) (b := 160) (l := [1, 0, 1]) (d := [4, 8]) (by decide +kernel) (by decide +kernel) (by decide +kernel) hn (by decide) (by decide) wakeF_stats hd (by decide +kernel)]
 have e1 : rdBits wakeB 0 32 = 0 := by decide +kernel
 have e2 : rdBits wakeB 32 32 = 0 := by decide +kernel
 have e3 : rdBits wakeB 64 16 = 5 := by decide +kernel
 have e4 : signedP (rdBits wakeB 96 24) 24 = 2 := by decide +kernel
 have e5 : rdBits wakeB 120 8 = 0 := by decide +kernel
 rw [e1, e2, e3, e4, e5]
 rfl
def wakeR : List R5 := [(5, true, 129000, false, false), (6, false, 0, false, false), (7, true, 131000, false, false)]
theorem wakeF_reps : reps2 5 (baseP 128000 2) [1, 0, 1] [4, 8] 3 = wakeR := by decide +kernel
theorem wakeF_feed : feedP wakeT 128000 = ((wakeR, []), 0) := by
 have ho : fdOne 128000 wakePF = .ok (wakeR, [], 1) := by
  rw [fd_one2 ⟨rfl, rfl⟩ (by show (twccP wakeB).2 = 0; rw [wakeF_twcc])]
  show Except.ok (reps2 (twccP wakeB).1.first (baseP 128000 (twccP wakeB).1.base) (twccP wakeB).1.status (twccP wakeB).1.deltas (twccP wakeB).1.status.length, [], 1) = _
  rw [wakeF_twcc]
  show Except.ok (reps2 5 (baseP 128000 2) [1, 0, 1] [4, 8] 3, [], 1) = _
  rw [wakeF_reps]
 have ha : fdAll 128000 [wakePF] = .ok (wakeR, [], 1) := by
  rw [fdAll, ho, fdAll]
  rfl
 rw [feedP_ok (by rw [wakeF_split]) (by rw [wakeF_split]; exact ha), if_neg (by decide), if_neg (by decide)]
set_option maxHeartbeats 8000000 in
set_option maxRecDepth 100000 in
theorem wakesF_any (w : World) : Calls Try.prog 7 #[] w fun e w' => e = .returned (.bool true) ∧ Below w.heap.size w w' := by
 have KA := Aside0.mk (gb_blk (World.grownBy_alloc (w.alloc (.cells #[.int .i64 1, .int .i64 0, .int .i64 1] 3)) (.cells #[.int .i64 4, .int .i64 8] 3) none) (blk_new w (.cells #[.int .i64 1, .int .i64 0, .int .i64 1] 3)) (fun k hk => by cases hk))
 have KB0 := blk_new (w.alloc (.cells #[.int .i64 1, .int .i64 0, .int .i64 1] 3)) (.cells #[.int .i64 4, .int .i64 8] 3)
 rw [show (w.alloc (.cells #[.int .i64 1, .int .i64 0, .int .i64 1] 3)).heap.size = w.heap.size + 1 by simp] at KB0
 have KB := Aside0.mk KB0
 have HB := Aside0.mk (((Below.refl w.heap.size w).alloc (Nat.le_refl _) (.cells #[.int .i64 1, .int .i64 0, .int .i64 1] 3)).alloc (by simp) (.cells #[.int .i64 4, .int .i64 8] 3))
 clear KB0
 go_enter Try.func7, Try.ntmps7
 go_wp2_with fail
 refine (encode1 _ w.heap.size (w.heap.size + 1) KA.out KB.out).mono ?_
 rintro e w2 ⟨rfl, hb⟩
 replace HB := Aside0.mk (HB.out.trans (hb.mono HB.out.size))
 clear hb KA KB
 have HN := Aside0.mk (new_news w2 [.int .i64 15, .int .i64 205, .string wakeB] 56)
 have hP : PartsAt (w2.alloc (.cells #[.int .i64 15, .int .i64 205, .string wakeB] 56)) (some ⟨w2.heap.size, 0, none⟩) [wakePF] := by
  intro i x hi
  have hi0 : i = 0 := by
   rcases Nat.eq_zero_or_pos i with h | h
   ·exact h
   ·rw [List.getElem?_eq_none (by simp only [List.length_cons, List.length_nil]; omega)] at hi
    cases hi
  subst hi0
  have hx : wakePF = x := by simpa using hi
  subst hx
  refine ⟨_, rfl, HN.out 0 _ rfl, ?_, ?_⟩
  ·have := HN.out 1 _ rfl; exact this
  ·have := HN.out 2 _ rfl; exact this
 have CJ := Aside0.mk (rjoin_any (some ⟨w2.heap.size, 0, none⟩) 1 [wakePF] _ (by decide) hP (by decide +kernel))
 rw [wakeF_join] at CJ
 clear hP HN
 go_wp2_with fail
 refine CJ.out.mono ?_
 rintro e w3 ⟨rfl, hb⟩
 replace HB := Aside0.mk ((HB.out.alloc HB.out.size _).trans (hb.mono (by have := HB.out.size; simp; omega)))
 clear hb CJ
 have CR := Aside0.mk (read_any_F wakeT 128000 w3 (by decide +kernel) (by unfold I64; omega))
 unfold FeedPost at CR
 rw [wakeF_feed] at CR
 go_wp2_with fail
 refine CR.out.mono ?_
 rintro e w4 ⟨vR, vA, rfl, hR, hA, hb⟩
 obtain ⟨g, off, c, rfl, _, _, _, hx⟩ := hR.some_ (by decide)
 obtain ⟨AA, ca, rfl, -, -⟩ := hA.form
 have HBF := Aside0.mk (HB.out.trans (hb.mono HB.out.size))
 have hgl := (hR.lt (k := g) rfl).1
 have u0 := hx 2 (.int .i64 129000) rfl
 have u1 := hx 6 (.bool false) rfl
 have u2 := hx 12 (.int .i64 131000) rfl
 have u3 := hx 10 (.int .i64 7) rfl
 clear hb hR hA hx CR
 simp only [List.length_cons, List.length_nil, Nat.zero_add, show wakeR.length = 3 from rfl]
 go_wp2_with fail
 go_ret
 exact ⟨rfl, HBF.out.alloc HBF.out.size _⟩
set_option maxHeartbeats 8000000 in
theorem feedReads_any (s : ByteArray) (near : Int) (w : World) (hs : s.size ≤ 140737488351232) (hn : I64 near) : Calls Try.prog 3 #[.string s, .int .i64 near] w fun e w' => e = .returned (.bool true) ∧ Below w.heap.size w w' := by
 by_cases h : 70000 < s.size
 ·have d1 : decide (70000 < (s.size : Int)) = true := decide_eq_true (by omega)
  go_enter Try.func3, Try.ntmps3
  go_wp2_with fail
  refine (wakesF_any w).mono ?_
  rintro e w1 ⟨rfl, hb⟩
  have HB := Aside0.mk hb
  clear hb
  go_wp2_with fail
  go_ret
  exact ⟨rfl, HB.out⟩
 ·have d1 : decide (70000 < (s.size : Int)) = false := decide_eq_false (by omega)
  have C1 := Aside0.mk (fun w => read_any_F s near w (by omega) hn)
  have C2 := Aside0.mk (fun w => rread12_any s near w (by omega) hn)
  obtain ⟨⟨⟨R, A⟩, E⟩, hP⟩ : ∃ f, f = feedP s near := ⟨_, rfl⟩
  unfold FeedPost at C1 C2
  rw [← hP] at C1 C2
  dsimp only at C1 C2
  have HP := Aside0.mk hP
  have qE : (E == E) = true := by simp
  clear hP
  go_enter Try.func3, Try.ntmps3
  go_wp2_with fail
  refine (C1.out w).mono ?_
  rintro e w1 ⟨vR, vA, rfl, hR, hA, hb1⟩
  obtain ⟨R1, c1, rfl, -, -⟩ := hR.form
  obtain ⟨A1, d1_, rfl, -, -⟩ := hA.form
  have HB := Aside0.mk hb1
  have HR1 := Aside0.mk (hR.alloc (.cells #[.slice R1 R.length c1, .slice A1 A.length d1_] 26))
  have HA1 := Aside0.mk (hA.alloc (.cells #[.slice R1 R.length c1, .slice A1 A.length d1_] 26))
  replace HB := Aside0.mk (HB.out.alloc HB.out.size (.cells #[.slice R1 R.length c1, .slice A1 A.length d1_] 26))
  have K5 := Aside0.mk (blk_new w1 (.cells #[.slice R1 R.length c1, .slice A1 A.length d1_] 26))
  clear hR hA hb1
  go_upto_region 4 with fail
  obtain ⟨g5, hg5⟩ : ∃ g, g = w1.heap.size := ⟨_, rfl⟩
  rw [← hg5] at K5 ⊢
  clear hg5
  generalize w1.alloc (.cells #[.slice R1 R.length c1, .slice A1 A.length d1_] 26) = w2 at *
  go_wp2_with fail
  refine (C2.out w2).mono ?_
  rintro e w3 ⟨vR, vA, rfl, hR, hA, hb3⟩
  obtain ⟨R2, c2, rfl, -, -⟩ := hR.form
  obtain ⟨A2, d2, rfl, -, -⟩ := hA.form
  replace HR1 := Aside0.mk ((HR1.out.below hb3).alloc (.cells #[.slice R2 R.length c2, .slice A2 A.length d2] 30))
  replace HA1 := Aside0.mk ((HA1.out.below hb3).alloc (.cells #[.slice R2 R.length c2, .slice A2 A.length d2] 30))
  have HR2 := Aside0.mk (hR.alloc (.cells #[.slice R2 R.length c2, .slice A2 A.length d2] 30))
  have HA2 := Aside0.mk (hA.alloc (.cells #[.slice R2 R.length c2, .slice A2 A.length d2] 30))
  replace K5 := Aside0.mk (gb_blk (World.grownBy_alloc w3 (.cells #[.slice R2 R.length c2, .slice A2 A.length d2] 30) none) ((hb3.block g5 (blk_lt K5.out)).trans K5.out) (fun k hk => by cases hk))
  have K7 := Aside0.mk (blk_new w3 (.cells #[.slice R2 R.length c2, .slice A2 A.length d2] 30))
  replace HB := Aside0.mk (HB.out.trans (hb3.mono HB.out.size))
  replace HB := Aside0.mk (HB.out.alloc HB.out.size (.cells #[.slice R2 R.length c2, .slice A2 A.length d2] 30))
  clear hR hA hb3 C1 C2
  go_upto_region 5 with fail
  obtain ⟨g7, hg7⟩ : ∃ g, g = w3.heap.size := ⟨_, rfl⟩
  rw [← hg7] at K7 ⊢
  clear hg7
  generalize w3.alloc (.cells #[.slice R2 R.length c2, .slice A2 A.length d2] 30) = w4 at *
  have x0 := blk_cell K5.out 0
  have y0 := blk_cell K7.out 0
  simp only [List.getElem?_toArray, List.getElem?_cons_zero, List.getElem?_cons_succ] at x0 y0
  go_wp2_with fail
  refine (reports_same w4 _ _ _ _ R HR1.out HR2.out).mono ?_
  rintro e w5 ⟨rfl, hb5⟩
  replace K5 := Aside0.mk ((hb5.block g5 (blk_lt K5.out)).trans K5.out)
  replace K7 := Aside0.mk ((hb5.block g7 (blk_lt K7.out)).trans K7.out)
  replace HA1 := Aside0.mk (HA1.out.below hb5)
  replace HA2 := Aside0.mk (HA2.out.below hb5)
  replace HB := Aside0.mk (HB.out.trans (hb5.mono HB.out.size))
  clear hb5 x0 y0
  have x1 := blk_cell K5.out 1
  have y1 := blk_cell K7.out 1
  simp only [List.getElem?_toArray, List.getElem?_cons_zero, List.getElem?_cons_succ] at x1 y1
  go_wp2_with fail
  refine (ints_same w5 _ _ _ _ A HA1.out HA2.out).mono ?_
  rintro e w6 ⟨rfl, hb6⟩
  replace HB := Aside0.mk (HB.out.trans (hb6.mono HB.out.size))
  clear hb6 x1 y1
  go_wp2_with fail
  refine (wakesF_any w6).mono ?_
  rintro e w7 ⟨rfl, hb7⟩
  replace HB := Aside0.mk (HB.out.trans (hb7.mono HB.out.size))
  clear hb7
  go_wp2_with fail
  go_ret
  exact ⟨rfl, HB.out⟩
end Go.Proofs.Ytgakmnholegbgaa.B
end
section
namespace Go.Proofs.Ytgakmnholegbgaa.B
open Go.Joins Go.ChangeShapes Go.WideShapes Go.RowKit Go.Deep
section
variable {H : Type} {enc : TypeId × Value → H} {P : Program} {w : World} {base : Nat} {spare : Nat → Bool} {held : Bool}
theorem open_agg5 {r : Reach} {b0 : Nat} {t : TypeId} {f0 f1 f2 f3 f4 : Field} {v : Value} {d : DataW H} {p : List MemPlace} (hs : P.underlying t = some (.struct #[f0, f1, f2, f3, f4])) (hone : oneCellFields P #[f0, f1, f2, f3, f4] = true) (hC : P.cellsOf t = 5)
  (hv : Value.okWide P w r b0 t v) (h : DataW.Trod enc P w base spare held t v d p) :
  ∃ (v0 v1 v2 v3 v4 : Value) (y0 y1 y2 y3 y4 : DataW H × List MemPlace) (n : Nat), v = .agg #[v0, v1, v2, v3, v4] ∧ d = .agg [y0.1, y1.1, y2.1, y3.1, y4.1] ∧ p = y0.2 ++ (y1.2 ++ (y2.2 ++ (y3.2 ++ y4.2))) ∧
   DataW.trod enc P w base spare held n f0.type [v0] = some y0 ∧ DataW.trod enc P w base spare held n f1.type [v1] = some y1 ∧ DataW.trod enc P w base spare held n f2.type [v2] = some y2 ∧ DataW.trod enc P w base spare held n f3.type [v3] = some y3 ∧ DataW.trod enc P w base spare held n f4.type [v4] = some y4 := by
 obtain ⟨cs, rfl, hsz⟩ := okWide_struct hs hv
 obtain ⟨l⟩ := cs
 match l, hsz.trans hC with
 | [c0, c1, c2, c3, c4], _ =>
  obtain ⟨fuel, hf⟩ := h
  obtain ⟨xs, n, _, hx, _, hlen, hg⟩ := DataW.trod_struct hs hf
  obtain ⟨o0, k0⟩ := hone_of hone 0 f0 rfl
  obtain ⟨o1, k1⟩ := hone_of hone 1 f1 rfl
  obtain ⟨o2, k2⟩ := hone_of hone 2 f2 rfl
  obtain ⟨o3, k3⟩ := hone_of hone 3 f3 rfl
  obtain ⟨o4, k4⟩ := hone_of hone 4 f4 rfl
  match xs, hlen with
  | [y0, y1, y2, y3, y4], _ =>
   simp only [Prod.mk.injEq] at hx
   exact ⟨c0, c1, c2, c3, c4, y0, y1, y2, y3, y4, n, rfl, by simpa using hx.1, by simpa using hx.2, by simpa [Value.cells, o0, k0] using hg 0 f0 rfl, by simpa [Value.cells, o1, k1] using hg 1 f1 rfl, by simpa [Value.cells, o2, k2] using hg 2 f2 rfl, by simpa [Value.cells, o3, k3] using hg 3 f3 rfl, by simpa [Value.cells, o4, k4] using hg 4 f4 rfl⟩
theorem open_agg6 {r : Reach} {b0 : Nat} {t : TypeId} {f0 f1 f2 f3 f4 f5 : Field} {v : Value} {d : DataW H} {p : List MemPlace} (hs : P.underlying t = some (.struct #[f0, f1, f2, f3, f4, f5])) (hone : oneCellFields P #[f0, f1, f2, f3, f4, f5] = true) (hC : P.cellsOf t = 6)
  (hv : Value.okWide P w r b0 t v) (h : DataW.Trod enc P w base spare held t v d p) :
  ∃ (v0 v1 v2 v3 v4 v5 : Value) (y0 y1 y2 y3 y4 y5 : DataW H × List MemPlace) (n : Nat), v = .agg #[v0, v1, v2, v3, v4, v5] ∧ d = .agg [y0.1, y1.1, y2.1, y3.1, y4.1, y5.1] ∧ p = y0.2 ++ (y1.2 ++ (y2.2 ++ (y3.2 ++ (y4.2 ++ y5.2)))) ∧
   DataW.trod enc P w base spare held n f0.type [v0] = some y0 ∧ DataW.trod enc P w base spare held n f1.type [v1] = some y1 ∧ DataW.trod enc P w base spare held n f2.type [v2] = some y2 ∧ DataW.trod enc P w base spare held n f3.type [v3] = some y3 ∧ DataW.trod enc P w base spare held n f4.type [v4] = some y4 ∧ DataW.trod enc P w base spare held n f5.type [v5] = some y5 := by
 obtain ⟨cs, rfl, hsz⟩ := okWide_struct hs hv
 obtain ⟨l⟩ := cs
 match l, hsz.trans hC with
 | [c0, c1, c2, c3, c4, c5], _ =>
  obtain ⟨fuel, hf⟩ := h
  obtain ⟨xs, n, _, hx, _, hlen, hg⟩ := DataW.trod_struct hs hf
  obtain ⟨o0, k0⟩ := hone_of hone 0 f0 rfl
  obtain ⟨o1, k1⟩ := hone_of hone 1 f1 rfl
  obtain ⟨o2, k2⟩ := hone_of hone 2 f2 rfl
  obtain ⟨o3, k3⟩ := hone_of hone 3 f3 rfl
  obtain ⟨o4, k4⟩ := hone_of hone 4 f4 rfl
  obtain ⟨o5, k5⟩ := hone_of hone 5 f5 rfl
  match xs, hlen with
  | [y0, y1, y2, y3, y4, y5], _ =>
   simp only [Prod.mk.injEq] at hx
   exact ⟨c0, c1, c2, c3, c4, c5, y0, y1, y2, y3, y4, y5, n, rfl, by simpa using hx.1, by simpa using hx.2, by simpa [Value.cells, o0, k0] using hg 0 f0 rfl, by simpa [Value.cells, o1, k1] using hg 1 f1 rfl, by simpa [Value.cells, o2, k2] using hg 2 f2 rfl, by simpa [Value.cells, o3, k3] using hg 3 f3 rfl, by simpa [Value.cells, o4, k4] using hg 4 f4 rfl, by simpa [Value.cells, o5, k5] using hg 5 f5 rfl⟩
theorem open_agg7 {r : Reach} {b0 : Nat} {t : TypeId} {f0 f1 f2 f3 f4 f5 f6 : Field} {v : Value} {d : DataW H} {p : List MemPlace} (hs : P.underlying t = some (.struct #[f0, f1, f2, f3, f4, f5, f6])) (hone : oneCellFields P #[f0, f1, f2, f3, f4, f5, f6] = true) (hC : P.cellsOf t = 7)
  (hv : Value.okWide P w r b0 t v) (h : DataW.Trod enc P w base spare held t v d p) :
  ∃ (v0 v1 v2 v3 v4 v5 v6 : Value) (y0 y1 y2 y3 y4 y5 y6 : DataW H × List MemPlace) (n : Nat), v = .agg #[v0, v1, v2, v3, v4, v5, v6] ∧ d = .agg [y0.1, y1.1, y2.1, y3.1, y4.1, y5.1, y6.1] ∧ p = y0.2 ++ (y1.2 ++ (y2.2 ++ (y3.2 ++ (y4.2 ++ (y5.2 ++ y6.2))))) ∧
   DataW.trod enc P w base spare held n f0.type [v0] = some y0 ∧ DataW.trod enc P w base spare held n f1.type [v1] = some y1 ∧ DataW.trod enc P w base spare held n f2.type [v2] = some y2 ∧ DataW.trod enc P w base spare held n f3.type [v3] = some y3 ∧ DataW.trod enc P w base spare held n f4.type [v4] = some y4 ∧ DataW.trod enc P w base spare held n f5.type [v5] = some y5 ∧ DataW.trod enc P w base spare held n f6.type [v6] = some y6 := by
 obtain ⟨cs, rfl, hsz⟩ := okWide_struct hs hv
 obtain ⟨l⟩ := cs
 match l, hsz.trans hC with
 | [c0, c1, c2, c3, c4, c5, c6], _ =>
  obtain ⟨fuel, hf⟩ := h
  obtain ⟨xs, n, _, hx, _, hlen, hg⟩ := DataW.trod_struct hs hf
  obtain ⟨o0, k0⟩ := hone_of hone 0 f0 rfl
  obtain ⟨o1, k1⟩ := hone_of hone 1 f1 rfl
  obtain ⟨o2, k2⟩ := hone_of hone 2 f2 rfl
  obtain ⟨o3, k3⟩ := hone_of hone 3 f3 rfl
  obtain ⟨o4, k4⟩ := hone_of hone 4 f4 rfl
  obtain ⟨o5, k5⟩ := hone_of hone 5 f5 rfl
  obtain ⟨o6, k6⟩ := hone_of hone 6 f6 rfl
  match xs, hlen with
  | [y0, y1, y2, y3, y4, y5, y6], _ =>
   simp only [Prod.mk.injEq] at hx
   exact ⟨c0, c1, c2, c3, c4, c5, c6, y0, y1, y2, y3, y4, y5, y6, n, rfl, by simpa using hx.1, by simpa using hx.2, by simpa [Value.cells, o0, k0] using hg 0 f0 rfl, by simpa [Value.cells, o1, k1] using hg 1 f1 rfl, by simpa [Value.cells, o2, k2] using hg 2 f2 rfl, by simpa [Value.cells, o3, k3] using hg 3 f3 rfl, by simpa [Value.cells, o4, k4] using hg 4 f4 rfl, by simpa [Value.cells, o5, k5] using hg 5 f5 rfl, by simpa [Value.cells, o6, k6] using hg 6 f6 rfl⟩
theorem open_agg8 {r : Reach} {b0 : Nat} {t : TypeId} {f0 f1 f2 f3 f4 f5 f6 f7 : Field} {v : Value} {d : DataW H} {p : List MemPlace} (hs : P.underlying t = some (.struct #[f0, f1, f2, f3, f4, f5, f6, f7])) (hone : oneCellFields P #[f0, f1, f2, f3, f4, f5, f6, f7] = true) (hC : P.cellsOf t = 8)
  (hv : Value.okWide P w r b0 t v) (h : DataW.Trod enc P w base spare held t v d p) :
  ∃ (v0 v1 v2 v3 v4 v5 v6 v7 : Value) (y0 y1 y2 y3 y4 y5 y6 y7 : DataW H × List MemPlace) (n : Nat), v = .agg #[v0, v1, v2, v3, v4, v5, v6, v7] ∧ d = .agg [y0.1, y1.1, y2.1, y3.1, y4.1, y5.1, y6.1, y7.1] ∧ p = y0.2 ++ (y1.2 ++ (y2.2 ++ (y3.2 ++ (y4.2 ++ (y5.2 ++ (y6.2 ++ y7.2)))))) ∧
   DataW.trod enc P w base spare held n f0.type [v0] = some y0 ∧ DataW.trod enc P w base spare held n f1.type [v1] = some y1 ∧ DataW.trod enc P w base spare held n f2.type [v2] = some y2 ∧ DataW.trod enc P w base spare held n f3.type [v3] = some y3 ∧ DataW.trod enc P w base spare held n f4.type [v4] = some y4 ∧ DataW.trod enc P w base spare held n f5.type [v5] = some y5 ∧ DataW.trod enc P w base spare held n f6.type [v6] = some y6 ∧ DataW.trod enc P w base spare held n f7.type [v7] = some y7 := by
 obtain ⟨cs, rfl, hsz⟩ := okWide_struct hs hv
 obtain ⟨l⟩ := cs
 match l, hsz.trans hC with
 | [c0, c1, c2, c3, c4, c5, c6, c7], _ =>
  obtain ⟨fuel, hf⟩ := h
  obtain ⟨xs, n, _, hx, _, hlen, hg⟩ := DataW.trod_struct hs hf
  obtain ⟨o0, k0⟩ := hone_of hone 0 f0 rfl
  obtain ⟨o1, k1⟩ := hone_of hone 1 f1 rfl
  obtain ⟨o2, k2⟩ := hone_of hone 2 f2 rfl
  obtain ⟨o3, k3⟩ := hone_of hone 3 f3 rfl
  obtain ⟨o4, k4⟩ := hone_of hone 4 f4 rfl
  obtain ⟨o5, k5⟩ := hone_of hone 5 f5 rfl
  obtain ⟨o6, k6⟩ := hone_of hone 6 f6 rfl
  obtain ⟨o7, k7⟩ := hone_of hone 7 f7 rfl
  match xs, hlen with
  | [y0, y1, y2, y3, y4, y5, y6, y7], _ =>
   simp only [Prod.mk.injEq] at hx
   exact ⟨c0, c1, c2, c3, c4, c5, c6, c7, y0, y1, y2, y3, y4, y5, y6, y7, n, rfl, by simpa using hx.1, by simpa using hx.2, by simpa [Value.cells, o0, k0] using hg 0 f0 rfl, by simpa [Value.cells, o1, k1] using hg 1 f1 rfl, by simpa [Value.cells, o2, k2] using hg 2 f2 rfl, by simpa [Value.cells, o3, k3] using hg 3 f3 rfl, by simpa [Value.cells, o4, k4] using hg 4 f4 rfl, by simpa [Value.cells, o5, k5] using hg 5 f5 rfl, by simpa [Value.cells, o6, k6] using hg 6 f6 rfl, by simpa [Value.cells, o7, k7] using hg 7 f7 rfl⟩
theorem open_agg9 {r : Reach} {b0 : Nat} {t : TypeId} {f0 f1 f2 f3 f4 f5 f6 f7 f8 : Field} {v : Value} {d : DataW H} {p : List MemPlace} (hs : P.underlying t = some (.struct #[f0, f1, f2, f3, f4, f5, f6, f7, f8])) (hone : oneCellFields P #[f0, f1, f2, f3, f4, f5, f6, f7, f8] = true) (hC : P.cellsOf t = 9)
  (hv : Value.okWide P w r b0 t v) (h : DataW.Trod enc P w base spare held t v d p) :
  ∃ (v0 v1 v2 v3 v4 v5 v6 v7 v8 : Value) (y0 y1 y2 y3 y4 y5 y6 y7 y8 : DataW H × List MemPlace) (n : Nat), v = .agg #[v0, v1, v2, v3, v4, v5, v6, v7, v8] ∧ d = .agg [y0.1, y1.1, y2.1, y3.1, y4.1, y5.1, y6.1, y7.1, y8.1] ∧ p = y0.2 ++ (y1.2 ++ (y2.2 ++ (y3.2 ++ (y4.2 ++ (y5.2 ++ (y6.2 ++ (y7.2 ++ y8.2))))))) ∧
   DataW.trod enc P w base spare held n f0.type [v0] = some y0 ∧ DataW.trod enc P w base spare held n f1.type [v1] = some y1 ∧ DataW.trod enc P w base spare held n f2.type [v2] = some y2 ∧ DataW.trod enc P w base spare held n f3.type [v3] = some y3 ∧ DataW.trod enc P w base spare held n f4.type [v4] = some y4 ∧ DataW.trod enc P w base spare held n f5.type [v5] = some y5 ∧ DataW.trod enc P w base spare held n f6.type [v6] = some y6 ∧ DataW.trod enc P w base spare held n f7.type [v7] = some y7 ∧ DataW.trod enc P w base spare held n f8.type [v8] = some y8 := by
 obtain ⟨cs, rfl, hsz⟩ := okWide_struct hs hv
 obtain ⟨l⟩ := cs
 match l, hsz.trans hC with
 | [c0, c1, c2, c3, c4, c5, c6, c7, c8], _ =>
  obtain ⟨fuel, hf⟩ := h
  obtain ⟨xs, n, _, hx, _, hlen, hg⟩ := DataW.trod_struct hs hf
  obtain ⟨o0, k0⟩ := hone_of hone 0 f0 rfl
  obtain ⟨o1, k1⟩ := hone_of hone 1 f1 rfl
  obtain ⟨o2, k2⟩ := hone_of hone 2 f2 rfl
  obtain ⟨o3, k3⟩ := hone_of hone 3 f3 rfl
  obtain ⟨o4, k4⟩ := hone_of hone 4 f4 rfl
  obtain ⟨o5, k5⟩ := hone_of hone 5 f5 rfl
  obtain ⟨o6, k6⟩ := hone_of hone 6 f6 rfl
  obtain ⟨o7, k7⟩ := hone_of hone 7 f7 rfl
  obtain ⟨o8, k8⟩ := hone_of hone 8 f8 rfl
  match xs, hlen with
  | [y0, y1, y2, y3, y4, y5, y6, y7, y8], _ =>
   simp only [Prod.mk.injEq] at hx
   exact ⟨c0, c1, c2, c3, c4, c5, c6, c7, c8, y0, y1, y2, y3, y4, y5, y6, y7, y8, n, rfl, by simpa using hx.1, by simpa using hx.2, by simpa [Value.cells, o0, k0] using hg 0 f0 rfl, by simpa [Value.cells, o1, k1] using hg 1 f1 rfl, by simpa [Value.cells, o2, k2] using hg 2 f2 rfl, by simpa [Value.cells, o3, k3] using hg 3 f3 rfl, by simpa [Value.cells, o4, k4] using hg 4 f4 rfl, by simpa [Value.cells, o5, k5] using hg 5 f5 rfl, by simpa [Value.cells, o6, k6] using hg 6 f6 rfl, by simpa [Value.cells, o7, k7] using hg 7 f7 rfl, by simpa [Value.cells, o8, k8] using hg 8 f8 rfl⟩
end
section
variable {H : Type} {enc : TypeId × Value → H} {P : Program} {w : World} {base : Nat} {spare : Nat → Bool} {held : Bool}
theorem open_slice_fields {t e : TypeId} {fs : Array Field} {fuel : Nat} {cs : List Value} {x : DataW H × List MemPlace} (ht : P.underlying t = some (.slice e)) (he : P.underlying e = some (.struct fs))
  (hone : oneCellFields P fs = true) (hC : P.cellsOf e = fs.size) (h : DataW.trod enc P w base spare held fuel t cs = some x) :
  (cs = [.slice none 0 0] ∧ x = (.nil, [])) ∨
  ∃ (a : Addr) (len cap m : Nat) (D : Nat → DataW H) (Pl : Nat → List MemPlace), cs = [.slice (some a) len cap] ∧ base ≤ a.block ∧ len ≤ cap ∧ cap ≤ maxLen ∧ m = (if spare a.block then cap else len) ∧
   x = (.slice ((List.range len).map D) ((List.range (m - len)).map fun j => D (len + j)), MemPlace.row a (m * fs.size) ++ (List.range m).flatMap Pl) ∧
   ∀ i, i < m → ∃ (ys : List (DataW H × List MemPlace)) (n : Nat), D i = .agg (ys.map (·.1)) ∧ Pl i = ys.flatMap (·.2) ∧ ys.length = fs.size ∧
    ∀ (j : Nat) (f : Field), fs[j]? = some f → ∃ (v : Value) (y : DataW H × List MemPlace), w.cell? (a.add (i * fs.size + j)) = some v ∧ ys[j]? = some y ∧ DataW.trod enc P w base spare held n f.type [v] = some y := by
 rcases open_slice ht h with h0 | ⟨a, len, cap, m, n, D, Pl, hcs, hb, hl, hm, hmm, hx, hi⟩
 ·exact .inl h0
 ·refine .inr ⟨a, len, cap, m, D, Pl, hcs, hb, hl, hm, hmm, by rw [hC] at hx; exact hx, fun i him => ?_⟩
  obtain ⟨cs', hc, ht'⟩ := hi i him
  rw [hC] at hc
  obtain ⟨ys, n', hn', hy, hlen, hyl, hf⟩ := DataW.trod_struct he ht'
  obtain ⟨_, hcl, hat⟩ := World.cells?_some hc
  simp only [Prod.mk.injEq] at hy
  refine ⟨ys, n', hy.1, hy.2, hyl, fun j f hj => ?_⟩
  obtain ⟨ho, hk⟩ := hone_of hone j f hj
  have hjl : j < fs.size := (Array.getElem?_eq_some_iff.1 hj).1
  have hcell := hat j hjl
  have hv : cs'[j]? = some (cs'[j]'(by omega)) := List.getElem?_eq_getElem (by omega)
  have h1 := hf j f hj
  rw [ho, hk] at h1
  have hone' : (cs'.drop j).take 1 = [cs'[j]'(by omega)] := by
   rw [List.drop_eq_getElem_cons (by omega)]
   rfl
  rw [hone'] at h1
  have hys : ys[j]? = some (ys[j]'(by omega)) := List.getElem?_eq_getElem (by omega)
  refine ⟨_, _, ?_, hys, h1.trans hys⟩
  rw [← Go.Deep.add_add, hcell, hv]
end
end Go.Proofs.Ytgakmnholegbgaa.B
end
