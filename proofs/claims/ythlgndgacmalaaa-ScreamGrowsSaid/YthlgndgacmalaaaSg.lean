/-
  The third controller grows by what comes, as long as it is fast: the law, walked.
-/
import Derived.Test.YthlgndgacmalaaaSk
import Derived.Test.YthlgndgacmalaaaRw
namespace Go.Proofs.Ythlgndgacmalaaa.B
open Go.RowKit Go.Proofs.YthlgndgacmalaaaW.PrintWords Go.Proofs.YthlgndgacmalaaaW.PrintLast Go.Proofs.YthlgndgacmalaaaW.PrintMore
set_option linter.unusedVariables false
set_option linter.unusedSimpArgs false
structure GInv (lo hi : Int) (s : Sc) : Prop where
  b : BInv lo hi s
  fast : s.fast = true
theorem GInv.made {start lo hi : Int} (h : goodSc start lo hi = true) : GInv lo hi (Sc.made start lo hi) := ⟨BInv.made h, rfl⟩
theorem GInv.hear {lo hi : Int} {s : Sc} (h : GInv lo hi s) (hlh : lo ≤ hi) (h1 : 1 ≤ lo) (h2 : hi ≤ 17179869184) (x d n : Int) (hx0 : 0 ≤ x) (hx1 : x ≤ 65535) (hd0 : 0 ≤ d) (hd1 : d ≤ 15000) :
    GInv lo hi (s.hear x d false false 100000 n).1 ∧ (s.hear x d false false 100000 n).1.win = min (s.win + x) (max 3000 (hi / 8)) := by
  have hb := (h.b.hear hlh h1 h2 x d false false 100000 n).1
  have hw0 := h.b.w0
  have hw1 := h.b.w1
  have e1 : cl x 0 16777216 = x := cl_in (by omega) (by omega)
  have e2 : cl d 0 1000000 = d := cl_in (by omega) (by omega)
  have hc : ¬ (s.cuts false false (cl 100000 1000 1000000) (cl n 0 1125899906842624) = true) := by simp [Sc.cuts]
  have hm : s.main (cl x 0 16777216) (cl d 0 1000000) false false (cl 100000 1000 1000000) (cl n 0 1125899906842624) = { s with was := cl n 0 1125899906842624, win := s.win + x } := by
    unfold Sc.main
    rw [if_neg hc, if_pos h.fast, e1, e2, if_neg (by omega)]
    congr 1
    unfold wrap64
    omega
  refine ⟨⟨hb, ?_⟩, ?_⟩
  · unfold Sc.hear
    rw [hm]
    exact h.fast
  · unfold Sc.hear
    rw [hm]
    show max (min (s.win + x) (mdo s.hi 1000000 8000000 1)) 3000 = _
    rw [h.b.ehi, most_eighth (by omega) h2]
    omega
def GRel (lo hi : Int) (n g : Nat) (w2 : World) (v9 v10 : Value) (wr : World) : Prop :=
  ∃ (k : Nat) (s : Sc), v9 = .int .i64 s.win ∧ v10 = .int .i64 k ∧ k ≤ n ∧ Aside0 (ScIs wr g s) ∧ Aside0 (GInv lo hi s) ∧ Aside0 (Touch (fun i => i = g) w2 wr)
set_option maxHeartbeats 4000000 in
set_option maxRecDepth 100000 in
theorem grows_good (start lo hi : Int) (A : Option Addr) (c : Nat) (l : List Int) (d : Int) (w : World) (hgood : goodSc start lo hi = true) (hr : Kd.C (Kd.int .u16) w A l.length l) (hm : l.length ≤ 9223372036854775807) (hw : ∀ x ∈ l, U16 x) (hd : U16 d) :
    Calls Try.prog 4 #[.agg #[.int .i64 start, .int .i64 lo, .int .i64 hi], .slice A l.length c, .int .u16 d] w fun e w' => e = .returned (.bool true) ∧ Below w.heap.size w w' := by
  have HR := Aside0.mk hr
  have HW := Aside0.mk hw
  have HG := Aside0.mk hgood
  have h := hgood
  simp only [goodSc, decide_eq_true_eq] at h
  obtain ⟨h1, h2, h3, h4⟩ := h
  have hlh : lo ≤ hi := by omega
  have hhi : 0 ≤ hi := by omega
  obtain ⟨hd0, hd1⟩ := hd
  clear hr hw hgood h2 h3
  go_enter Try.func4, Try.ntmps4
  go_wp2_with fail
  refine (scnew_good start lo hi _ HG.out).mono ?_
  rintro e w1 ⟨g, rfl, hg, hS, hB⟩
  have hB0 := hB.size
  simp at hB0 hg
  have hX : w1.heap[w.heap.size]? = some (.cells #[.int .i64 start, .int .i64 lo, .int .i64 hi] 23 (0, 0)) := (hB.block _ (by simp)).trans (blk_new _ _)
  have HX := Aside0.mk hX
  have HS := Aside0.mk hS
  have HB := Aside0.mk hB
  clear hX hS hB
  go_wp2_with fail
  refine (window_any g _ _ HS.out).mono ?_
  rintro e w2 ⟨rfl, rfl⟩
  go_wp2_with fail
  go_loopw [9, 10] (fun v9 v10 wr => GRel lo hi l.length g w2 v9 v10 wr) (fun _ v _ => l.length - (intOf v).toNat)
  case atStart => exact ⟨0, _, rfl, rfl, by omega, HS, ⟨GInv.made HG.out⟩, ⟨Touch.refl _ _⟩⟩
  case round =>
    obtain ⟨k, s, rfl, rfl, hk, hS, hI, hT⟩ := hrel
    by_cases hlt : k < l.length ∧ k < 200
    · obtain ⟨hkn, hk2⟩ := hlt
      obtain ⟨ad, rfl, hx⟩ := Kd.at_int HR.out (k : Int) (by omega) (by omega)
      simp only [Int.toNat_natCast] at hx
      have hxx : U16 (rd l (k : Int)) := HW.out _ (by simp [rd, List.getD_eq_getElem?_getD, List.getElem?_eq_getElem hkn])
      generalize rd l (k : Int) = x at *
      obtain ⟨hx0, hx1⟩ := hxx
      have hadb : (ad.add k).block < w.heap.size := World.block_lt_of_cell? w _ hx
      have t0 : wr.cell? (ad.add k) = some (.int .u16 x) := by
        have e1 : wr.heap[(ad.add k).block]? = w2.heap[(ad.add k).block]? := hT.out.block _ (by omega) (by omega)
        have e2 : w2.heap[(ad.add k).block]? = w.heap[(ad.add k).block]? := (HB.out.block _ (by simp; omega)).trans (Below.heap_alloc _ _ _ hadb)
        rw [World.cell?_of_block (w := w) (e1.trans e2)]
        exact hx
      have hxm : 0 ≤ d % 15001 ∧ d % 15001 ≤ 15000 := by omega
      obtain ⟨D, hD⟩ : ∃ D, D = d % 15001 := ⟨_, rfl⟩
      have hb0 := hI.out.b.w0
      have hb1 := hI.out.b.w1
      clear hx
      go_wp2_with fail
      refine (hear_any g s x (d % 15001) 100000 ((k : Int) * 1000) false false _ hS.out hI.out.b.ok).mono ?_
      rintro e w3 ⟨rfl, hS3, hT3⟩
      obtain ⟨hI3, hwin⟩ := hI.out.hear hlh h1 h4 x (d % 15001) ((k : Int) * 1000) hx0 hx1 hxm.1 hxm.2
      obtain ⟨F, hF⟩ : ∃ F, F = (Sc.hear s x (d % 15001) false false 100000 ((k : Int) * 1000)).1 := ⟨_, rfl⟩
      rw [← hF] at hS3 hI3 hwin
      have hT13 : Touch (fun i => i = g) w2 w3 := hT.out.trans hT3 (fun i hi => .inl hi)
      have hX3 := hT13.kept HX.out (by show ¬ w.heap.size = g; omega)
      have x2 := blk_cell hX3 2
      simp only [List.getElem?_toArray, List.getElem?_cons_zero, List.getElem?_cons_succ] at x2
      have t3 : w3.cell? (ad.add k) = some (.int .u16 x) := by
        have hlw : (ad.add k).block < wr.heap.size := World.block_lt_of_cell? wr _ t0
        rw [World.cell?_of_block (w := wr) (hT3.block _ hlw (by show ¬ (ad.add k).block = g; omega))]
        exact t0
      have HS3 := Aside0.mk hS3
      have HI3 := Aside0.mk hI3
      have HFAST := Aside0.mk hI3.fast
      have hwin2 : min (s.win + x) (max 3000 (hi / 8)) = F.win := hwin.symm
      have HT13 := Aside0.mk hT13
      clear t0 hF hX3 hS3 hI3 hwin hD hxm hT13 hT3 hB0
      go_wp2_with fail
      go_quiet (fail)
      have hS5 : ScIs (w3.drewN nq) g F := ((Touch.refl (fun _ => False) w3).drewN nq).kept HS3.out (fun h => h)
      have HS5 := Aside0.mk hS5
      clear hS5
      go_wp2_with fail
      refine (window_any g F _ HS5.out).mono ?_
      rintro e w5 ⟨rfl, rfl⟩
      clear hwin2
      go_wp2_with fail
      refine (fast_any g F _ HS5.out).mono ?_
      rintro e w5 ⟨rfl, rfl⟩
      rw [HFAST.out]
      go_wp2_with fail
      go_roundw
      case rel => exact ⟨k + 1, F, rfl, by go_num, by omega, HS5, HI3, ⟨HT13.out.drewN nq⟩⟩
      case measure => simp [intOf]; omega
    · by_cases hkn : k < l.length
      · have hk2 : ¬ k < 200 := fun hh => hlt ⟨hkn, hh⟩
        clear hlt
        go_wp2_with fail
        refine (wakes_any _).mono ?_
        rintro e w5 ⟨rfl, hB5⟩
        go_wp2_with fail
        go_ret
        exact ⟨rfl, ((((Below.refl _ _).alloc (Nat.le_refl _) _).trans (HB.out.mono (by simp))).trans (hT.out.toBelow (by omega) (fun i hi => by omega))).trans (hB5.mono (by have := hT.out.size; omega))⟩
      · clear hlt
        go_wp2_with fail
        refine (wakes_any _).mono ?_
        rintro e w5 ⟨rfl, hB5⟩
        go_wp2_with fail
        go_ret
        exact ⟨rfl, ((((Below.refl _ _).alloc (Nat.le_refl _) _).trans (HB.out.mono (by simp))).trans (hT.out.toBelow (by omega) (fun i hi => by omega))).trans (hB5.mono (by have := hT.out.size; omega))⟩
set_option maxHeartbeats 1000000 in
set_option maxRecDepth 100000 in
theorem grows_bad (start lo hi : Int) (A : Option Addr) (n c : Nat) (d : Int) (w : World) (hbad : goodSc start lo hi = false) :
    Calls Try.prog 4 #[.agg #[.int .i64 start, .int .i64 lo, .int .i64 hi], .slice A n c, .int .u16 d] w fun e w' => e = .returned (.bool true) ∧ Below w.heap.size w w' := by
  have HG := Aside0.mk hbad
  clear hbad
  go_enter Try.func4, Try.ntmps4
  go_wp2_with fail
  refine (scnew_bad start lo hi _ HG.out).mono ?_
  rintro e w1 ⟨rfl, rfl⟩
  go_wp2_with fail
  refine (wakes_any _).mono ?_
  rintro e w5 ⟨rfl, hB5⟩
  go_wp2_with fail
  go_ret
  exact ⟨rfl, ((Below.refl _ _).alloc (Nat.le_refl _) _).trans (hB5.mono (by simp))⟩
theorem grows_true (start lo hi : Int) (A : Option Addr) (c : Nat) (l : List Int) (d : Int) (w : World) (_ : I64 start) (_ : I64 lo) (_ : I64 hi) (hr : Kd.C (Kd.int .u16) w A l.length l) (hc : l.length ≤ c) (hm : l.length ≤ maxLen) (hw : ∀ x ∈ l, U16 x) (hd : U16 d) :
    Calls Try.prog 4 #[.agg #[.int .i64 start, .int .i64 lo, .int .i64 hi], .slice A l.length c, .int .u16 d] w fun e w' => e = .returned (.bool true) ∧ Below w.heap.size w w' := by
  cases hg : goodSc start lo hi
  · exact grows_bad start lo hi A l.length c d w hg
  · exact grows_good start lo hi A c l d w hg hr (by unfold maxLen at hm; omega) hw hd
end Go.Proofs.Ythlgndgacmalaaa.B
