/-
  What the program's muldiv.Do computes: a product, divided, rounded and held.
-/
import Derived.Test.YtpmbacgdbnfeeaaMu
namespace Go.Proofs.Ytpmbacgdbnfeeaa.B
open Go.RowKit Go.Proofs.YtpmbacgdbnfeeaaW.PrintWords Go.Proofs.YtpmbacgdbnfeeaaW.PrintLast Go.Proofs.YtpmbacgdbnfeeaaW.PrintMore
set_option linter.unusedVariables false
set_option linter.unusedSimpArgs false
theorem bcell {W w1 : World} (hb : Below W.heap.size W w1) : (∀ b o, b < W.heap.size → w1.cell? ⟨b, o, none⟩ = W.cell? ⟨b, o, none⟩) ∧ (∀ b o, b < W.heap.size → w1.frozen? ⟨b, o, none⟩ = W.frozen? ⟨b, o, none⟩) :=
  ⟨fun b o h => hb.cell (p := ⟨b, o, none⟩) h, fun b o h => hb.frozen (p := ⟨b, o, none⟩) h⟩
def DivDone (w : World) (Q0 Q1 R : Int) (v12 v13 : Value) (wx : World) : Prop := ∃ g : Nat, v12 = .pointer (some ⟨g, 0, none⟩) ∧ v13 = .int .u64 R ∧ wx.heap[g]? = some (.cells #[.int .u64 Q0, .int .u64 Q1] 76 (0, 0)) ∧ w.heap.size ≤ g ∧ Below w.heap.size w wx
theorem dd_A {w w2 : World} {o o' : Obj} (hB : Below (w.alloc o).drew.heap.size (w.alloc o).drew w2) : (w2.alloc o').heap[w2.heap.size]? = some o' ∧ w.heap.size ≤ w2.heap.size ∧ Below w.heap.size w (w2.alloc o') := by
  have hz := hB.size
  simp at hz
  have h1 : Below w.heap.size w w2 := (((Below.refl _ _).alloc (Nat.le_refl _) _).drew).trans (hB.mono (by simp))
  exact ⟨blk_new _ _, by omega, h1.alloc (by omega) _⟩
theorem dd_B {w w2 : World} {o : Obj} {t : Nat} {x0 x1 y0 y1 : Value} (hB : Below ((w.alloc o).alloc (.cells #[x0, x1] t)).drew.heap.size ((w.alloc o).alloc (.cells #[x0, x1] t)).drew w2) :
    ((w2.setCell ⟨w.heap.size + 1, 0, none⟩ y0).setCell ⟨w.heap.size + 1, 1, none⟩ y1).heap[w.heap.size + 1]? = some (.cells #[y0, y1] t) ∧ w.heap.size ≤ w.heap.size + 1 ∧ Below w.heap.size w ((w2.setCell ⟨w.heap.size + 1, 0, none⟩ y0).setCell ⟨w.heap.size + 1, 1, none⟩ y1) := by
  have h1 : Below w.heap.size w w2 := ((((Below.refl _ _).alloc (Nat.le_refl _) _).alloc (by simp) _).drew).trans (hB.mono (by simp; omega))
  have h2 : w2.heap[w.heap.size + 1]? = some (.cells #[x0, x1] t) := by
    rw [hB.block (w.heap.size + 1) (by simp)]
    have := blk_new (w.alloc o) (.cells #[x0, x1] t)
    rwa [show (w.alloc o).heap.size = w.heap.size + 1 by simp] at this
  have h3 := blk_set (blk_set h2 0 y0) 1 y1
  exact ⟨h3.trans (by simp), by omega, (h1.setCell (by simp) _).setCell (by simp) _⟩
/-- What comes out: the quotient, held; and whether it was not. -/
def QuoIs (below : Bool) (Z0 Z1 : Int) (w : World) (e : Ending) (w' : World) : Prop :=
  (∃ ok : Bool, e = .returned (.tuple #[.int .i64 (hold (if below = true then -(Z0 * 18446744073709551616 + Z1) else Z0 * 18446744073709551616 + Z1)), .bool ok])) ∧ Below w.heap.size w w'
theorem quo_over {below : Bool} {Z0 Z1 : Int} {w w' : World} (h0 : 0 ≤ Z0) (h1 : 0 ≤ Z1) (hb : below = true) (h : 0 < Z0 ∨ 9223372036854775808 < Z1) (hB : Below w.heap.size w w') : QuoIs below Z0 Z1 w (.returned (.tuple #[.int .i64 (-9223372036854775808), .bool false])) w' := by
  refine ⟨⟨false, ?_⟩, hB⟩
  rw [if_pos hb, hold_lo (by omega)]
theorem quo_over' {below : Bool} {Z0 Z1 : Int} {w w' : World} (h0 : 0 ≤ Z0) (h1 : 0 ≤ Z1) (hb : below = false) (h : 0 < Z0 ∨ 9223372036854775807 < Z1) (hB : Below w.heap.size w w') : QuoIs below Z0 Z1 w (.returned (.tuple #[.int .i64 9223372036854775807, .bool false])) w' := by
  refine ⟨⟨false, ?_⟩, hB⟩
  rw [if_neg (by simp [hb]), hold_hi (by omega)]
theorem quo_in {below : Bool} {Z0 Z1 V : Int} {w w' : World} (h0 : 0 ≤ Z0) (h1 : 0 ≤ Z1) (hb : below = true) (h : Z0 ≤ 0 ∧ Z1 ≤ 9223372036854775808) (hV : V = wrap64 (IntKind.u64.wrap (-Z1))) (hB : Below w.heap.size w w') : QuoIs below Z0 Z1 w (.returned (.tuple #[.int .i64 V, .bool true])) w' := by
  refine ⟨⟨true, ?_⟩, hB⟩
  have e : V = -(Z0 * 18446744073709551616 + Z1) := by
    rw [hV, IntKind.wrap_u64]
    unfold wrap64
    omega
  rw [if_pos hb, hold_in (by omega) (by omega), e]
theorem quo_in' {below : Bool} {Z0 Z1 V : Int} {w w' : World} (h0 : 0 ≤ Z0) (h1 : 0 ≤ Z1) (hb : below = false) (h : Z0 ≤ 0 ∧ Z1 ≤ 9223372036854775807) (hV : V = wrap64 Z1) (hB : Below w.heap.size w w') : QuoIs below Z0 Z1 w (.returned (.tuple #[.int .i64 V, .bool true])) w' := by
  refine ⟨⟨true, ?_⟩, hB⟩
  have e : V = Z0 * 18446744073709551616 + Z1 := by
    rw [hV]
    unfold wrap64
    omega
  rw [if_neg (by simp [hb]), hold_in (by omega) (by omega), e]
set_option maxHeartbeats 4000000 in
set_option maxRecDepth 100000 in
theorem quotient_walk (a b c how SA SB SC N0 N1 Q0 Q1 R : Int) (U below : Bool) (w : World) (Z0 Z1 K : Int) (hc : (c == 0) = false) (h1 : decide (how < 1) = false) (h3 : decide (3 < how) = false)
    (hbelow : (!(!decide (a < 0) == decide (b < 0)) == decide (c < 0)) = below)
    (hZ : Aside0 (0 ≤ Z0 ∧ 0 ≤ Z1)) (hF : Aside0 (U = false → Z0 = Q0 ∧ Z1 = Q1)) (hK : Aside0 (U = true → IntKind.u64.wrap (Q0 + K) = Z0))
    (hA : Aside0 (U = true → ∀ w, (callFunc 37 #[.int .u64 Q1, .int .u64 1, .int .u64 0]).run Try.prog w = .ok (.value (.tuple #[.int .u64 Z1, .int .u64 K])) w))
    (HU : Aside0 (∀ w, Calls Try.prog 42 #[.int .u64 R, .int .u64 SC, .bool below, .int .i64 how] w fun e w' => e = .returned (.bool U) ∧ w' = w))
    (H1 : Aside0 (∀ w, Calls Try.prog 40 #[.int .i64 a] w fun e w' => e = .returned (.int .u64 SA) ∧ w' = w))
    (H2 : Aside0 (∀ w, Calls Try.prog 40 #[.int .i64 b] w fun e w' => e = .returned (.int .u64 SB) ∧ w' = w))
    (H3 : Aside0 (∀ w, Calls Try.prog 40 #[.int .i64 c] w fun e w' => e = .returned (.int .u64 SC) ∧ w' = w))
    (HM : Aside0 (∀ w, Calls Try.prog 39 #[.int .u64 SA, .int .u64 SB] w fun e w' => e = .returned (.tuple #[.int .u64 N0, .int .u64 N1]) ∧ w' = w))
    (HD : Aside0 (∀ w, Calls Try.prog 41 #[.agg #[.int .u64 N0, .int .u64 N1], .int .u64 SC] w fun e w' => e = .returned (.tuple #[.agg #[.int .u64 Q0, .int .u64 Q1], .int .u64 R]) ∧ Below w.heap.size w w')) :
    Calls Try.prog 35 #[.int .i64 a, .int .i64 b, .int .i64 c, .int .i64 how] w (QuoIs below Z0 Z1 w) := by
  go_enter Try.func35, Try.ntmps35
  go_wp2_with fail
  refine (H1.out _).mono ?_
  rintro e w1 ⟨rfl, rfl⟩
  go_wp2_with fail
  refine (H2.out _).mono ?_
  rintro e w1 ⟨rfl, rfl⟩
  go_wp2_with fail
  refine (HM.out _).mono ?_
  rintro e w1 ⟨rfl, rfl⟩
  go_upto_region 6 with fail
  clear hbelow h1 h3 hc
  go_cut [12, 13] (fun v12 v13 wx => DivDone w Q0 Q1 R v12 v13 wx)
  case first =>
    go_region_with (first | (go_at_call 40; refine (H3.out _).mono ?_; rintro e w2 ⟨rfl, rfl⟩) | (go_at_call 41; refine (HD.out _).mono ?_; rintro e w2 ⟨rfl, hB⟩; obtain ⟨hcq, hfq⟩ := bcell hB; have hz := hB.size; simp at hz))
    all_goals go_wp2_with fail
    all_goals go_meet
    all_goals clear H1 H2 H3 HM HD HU
    all_goals first
      | (obtain ⟨d1, d2, d3⟩ := dd_A (o' := .cells #[.int .u64 Q0, .int .u64 Q1] 76) hB; exact ⟨_, rfl, rfl, d1, d2, d3⟩)
      | (obtain ⟨d1, d2, d3⟩ := dd_B (y0 := .int .u64 Q0) (y1 := .int .u64 Q1) hB; exact ⟨_, rfl, rfl, d1, d2, d3⟩)
  case rest =>
    obtain ⟨g, rfl, rfl, hg, hgw, hB⟩ := hcut
    have c0 := blk_cell hg 0
    have c1 := blk_cell hg 1
    have f0 := blk_frozen hg 0
    have f1 := blk_frozen hg 1
    simp only [List.getElem?_toArray, List.getElem?_cons_zero, List.getElem?_cons_succ] at c0 c1
    have HG := Aside0.mk hg
    have HB := Aside0.mk hB
    clear hg hB
    go_wp2_with fail
    refine (H3.out _).mono ?_
    rintro e w2 ⟨rfl, rfl⟩
    go_wp2_with fail
    refine (HU.out _).mono ?_
    rintro e w2 ⟨rfl, rfl⟩
    cases U
    · obtain ⟨rfl, rfl⟩ := hF.out rfl
      clear hA hK hF
      cases below
      · go_wp2_with fail
        · have k : 0 < Z0 ∨ 9223372036854775807 < Z1 := by assumption
          go_ret2
          exact quo_over' hZ.out.1 hZ.out.2 rfl k HB.out
        · have k : Z0 ≤ 0 ∧ Z1 ≤ 9223372036854775807 := by assumption
          go_ret2
          exact quo_in' hZ.out.1 hZ.out.2 rfl k rfl HB.out
        · have k : 0 < Z0 := by assumption
          go_ret2
          exact quo_over' hZ.out.1 hZ.out.2 rfl (.inl k) HB.out
      · go_wp2_with fail
        · have k : 0 < Z0 ∨ 9223372036854775808 < Z1 := by assumption
          go_ret2
          exact quo_over hZ.out.1 hZ.out.2 rfl k HB.out
        · have k : Z0 ≤ 0 ∧ Z1 ≤ 9223372036854775808 := by assumption
          go_ret2
          exact quo_in hZ.out.1 hZ.out.2 rfl k rfl HB.out
        · have k : 0 < Z0 := by assumption
          go_ret2
          exact quo_over hZ.out.1 hZ.out.2 rfl (.inl k) HB.out
    · have a1 := hA.out rfl
      have a2 := hK.out rfl
      clear hA hK hF
      cases below
      · go_wp2_with fail
        · have k : 0 < Z0 ∨ 9223372036854775807 < Z1 := by assumption
          go_ret2
          exact quo_over' hZ.out.1 hZ.out.2 rfl k ((HB.out.setCell (by simpa using hgw) _).setCell (by simpa using hgw) _)
        · have k : Z0 ≤ 0 ∧ Z1 ≤ 9223372036854775807 := by assumption
          go_ret2
          exact quo_in' hZ.out.1 hZ.out.2 rfl k rfl ((HB.out.setCell (by simpa using hgw) _).setCell (by simpa using hgw) _)
        · have k : 0 < Z0 := by assumption
          go_ret2
          exact quo_over' hZ.out.1 hZ.out.2 rfl (.inl k) ((HB.out.setCell (by simpa using hgw) _).setCell (by simpa using hgw) _)
      · go_wp2_with fail
        · have k : 0 < Z0 ∨ 9223372036854775808 < Z1 := by assumption
          go_ret2
          exact quo_over hZ.out.1 hZ.out.2 rfl k ((HB.out.setCell (by simpa using hgw) _).setCell (by simpa using hgw) _)
        · have k : Z0 ≤ 0 ∧ Z1 ≤ 9223372036854775808 := by assumption
          go_ret2
          exact quo_in hZ.out.1 hZ.out.2 rfl k rfl ((HB.out.setCell (by simpa using hgw) _).setCell (by simpa using hgw) _)
        · have k : 0 < Z0 := by assumption
          go_ret2
          exact quo_over hZ.out.1 hZ.out.2 rfl (.inl k) ((HB.out.setCell (by simpa using hgw) _).setCell (by simpa using hgw) _)
end Go.Proofs.Ytpmbacgdbnfeeaa.B
