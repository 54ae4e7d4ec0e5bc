/-
  What the reference's Do computes: what the program's computes. Walk over the reference.
-/
import Derived.Test.YtpmbacgdbnfeeaaDo
namespace Go.Proofs.Ytpmbacgdbnfeeaa.B
open Go.RowKit Go.Proofs.YtpmbacgdbnfeeaaW.PrintWords Go.Proofs.YtpmbacgdbnfeeaaW.PrintLast Go.Proofs.YtpmbacgdbnfeeaaW.PrintMore
set_option linter.unusedVariables false
set_option linter.unusedSimpArgs false
/-- What comes out: the number, held. -/
def DidIs (below : Bool) (Z : Int) (w : World) (e : Ending) (w' : World) : Prop :=
  (∃ ok : Bool, e = .returned (.agg #[.int .i64 (hold (if below = true then -Z else Z)), .bool ok])) ∧ Below w.heap.size w w'
theorem did_over {below : Bool} {Z : Int} {w w' : World} (hb : below = true) (h : 9223372036854775808 < Z) (hB : Below w.heap.size w w') : DidIs below Z w (.returned (.agg #[.int .i64 (-9223372036854775808), .bool false])) w' := by
  refine ⟨⟨false, ?_⟩, hB⟩
  rw [if_pos hb, hold_lo (by omega)]
theorem did_over' {below : Bool} {Z : Int} {w w' : World} (hb : below = false) (h : 9223372036854775807 < Z) (hB : Below w.heap.size w w') : DidIs below Z w (.returned (.agg #[.int .i64 9223372036854775807, .bool false])) w' := by
  refine ⟨⟨false, ?_⟩, hB⟩
  rw [if_neg (by simp [hb]), hold_hi (by omega)]
theorem did_in {below : Bool} {Z V : Int} {w w' : World} (h0 : 0 ≤ Z) (hb : below = true) (h : Z ≤ 9223372036854775808) (hV : V = wrap64 (-(wrap64 Z))) (hB : Below w.heap.size w w') : DidIs below Z w (.returned (.agg #[.int .i64 V, .bool true])) w' := by
  refine ⟨⟨true, ?_⟩, hB⟩
  have e : V = -Z := by
    rw [hV]
    unfold wrap64
    omega
  rw [if_pos hb, hold_in (by omega) (by omega), e]
theorem did_in' {below : Bool} {Z V : Int} {w w' : World} (h0 : 0 ≤ Z) (hb : below = false) (h : Z ≤ 9223372036854775807) (hV : V = wrap64 Z) (hB : Below w.heap.size w w') : DidIs below Z w (.returned (.agg #[.int .i64 V, .bool true])) w' := by
  refine ⟨⟨true, ?_⟩, hB⟩
  have e : V = Z := by
    rw [hV]
    unfold wrap64
    omega
  rw [if_neg (by simp [hb]), hold_in (by omega) (by omega), e]
theorem did_fin {below ok : Bool} {Z V : Int} {w w' : World} (h : hold (if below = true then -Z else Z) = V) (hB : Below w.heap.size w w') : DidIs below Z w (.returned (.agg #[.int .i64 V, .bool ok])) w' := ⟨⟨ok, by rw [h]⟩, hB⟩
theorem Below.cast' {g : Nat} {w w' : World} (h : Below g w w') (hg : g = w.heap.size) : Below w.heap.size w w' := hg ▸ h
set_option maxHeartbeats 4000000 in
set_option maxRecDepth 100000 in
theorem did_walk (a b c how SA SB SC T0 T1 Q L Z : Int) (over below U : Bool) (w : World) (hc : (c == 0) = false) (h1 : decide (how < 1) = false) (h3 : decide (3 < how) = false)
    (hbelow : (!(!decide (a < 0) == decide (b < 0)) == decide (c < 0)) = below) (hQ0 : 0 ≤ Q) (hQ1 : Q < 18446744073709551616)
    (hZ : Aside0 ((over = true → 18446744073709551616 ≤ Z) ∧ (over = false → Z = Q + (if U = true then 1 else 0))))
    (hU : ((L == 0) = true ∧ U = false) ∨ ((L == 0) = false ∧ (how == 1) = true ∧ U = below) ∨ ((L == 0) = false ∧ (how == 1) = false ∧ (how == 3) = true ∧ U = !below) ∨ ((L == 0) = false ∧ (how == 1) = false ∧ (how == 3) = false ∧ below = true ∧ decide (IntKind.u64.wrap (SC - L) < L) = U) ∨ ((L == 0) = false ∧ (how == 1) = false ∧ (how == 3) = false ∧ below = false ∧ decide (IntKind.u64.wrap (SC - L) ≤ L) = U))
    (H1 : Aside0 (∀ w, Calls Try.prog 45 #[.int .i64 a] w fun e w' => e = .returned (.int .u64 SA) ∧ w' = w))
    (H2 : Aside0 (∀ w, Calls Try.prog 45 #[.int .i64 b] w fun e w' => e = .returned (.int .u64 SB) ∧ w' = w))
    (H3 : Aside0 (∀ w, Calls Try.prog 45 #[.int .i64 c] w fun e w' => e = .returned (.int .u64 SC) ∧ w' = w))
    (HT : Aside0 (∀ w, Calls Try.prog 44 #[.int .u64 SA, .int .u64 SB] w fun e w' => e = .returned (.agg #[.int .u64 T0, .int .u64 T1]) ∧ Below w.heap.size w w'))
    (HP : Aside0 (∀ w, Calls Try.prog 43 #[.agg #[.int .u64 T0, .int .u64 T1], .int .u64 SC] w fun e w' => e = .returned (.agg #[.int .u64 Q, .bool over, .int .u64 L]) ∧ Below w.heap.size w w')) :
    Calls Try.prog 36 #[.int .i64 a, .int .i64 b, .int .i64 c, .int .i64 how] w (DidIs below Z w) := by
  have HU := Aside0.mk hU
  clear hU
  go_enter Try.func36, Try.ntmps36
  go_wp2_with fail
  refine (H1.out _).mono ?_
  rintro e w1 ⟨rfl, rfl⟩
  go_wp2_with fail
  refine (H2.out _).mono ?_
  rintro e w1 ⟨rfl, rfl⟩
  go_wp2_with fail
  refine (HT.out _).mono ?_
  rintro e w2 ⟨rfl, hb2⟩
  have K2 := (hb2.block w.heap.size (by simp)).trans (blk_new w (.cells #[.int .i64 0, .bool false] 69))
  have B2 := ((Below.refl w.heap.size w).alloc (Nat.le_refl _) (.cells #[.int .i64 0, .bool false] 69)).trans (hb2.mono (by simp))
  go_wp2_with fail
  refine (H3.out _).mono ?_
  rintro e w1 ⟨rfl, rfl⟩
  go_wp2_with fail
  refine (HP.out _).mono ?_
  rintro e w3 ⟨rfl, hb3⟩
  have K3 := (below_alloc (Below.refl _ w3) (.cells #[.int .u64 Q, .bool over, .int .u64 L] 83)).block w.heap.size (Nat.lt_of_lt_of_le (blk_lt K2) hb3.size)
  have K4 := K3.trans ((hb3.block w.heap.size (blk_lt K2)).trans K2)
  have P4 := blk_new w3 (.cells #[.int .u64 Q, .bool over, .int .u64 L] 83)
  have B4 := (B2.trans (hb3.mono B2.size)).alloc (Nat.le_trans B2.size hb3.size) (.cells #[.int .u64 Q, .bool over, .int .u64 L] 83)
  obtain ⟨g8, hg8⟩ : ∃ g, g = w.heap.size := ⟨_, rfl⟩
  have B5 : Below g8 w (w3.alloc (.cells #[.int .u64 Q, .bool over, .int .u64 L] 83)) := by rw [hg8]; exact B4
  rw [← hg8] at K4
  have HG := Aside0.mk hg8
  obtain ⟨gp, hgp⟩ : ∃ g, g = w3.heap.size := ⟨_, rfl⟩
  rw [← hgp] at P4
  have hne : g8 ≠ gp := by have := blk_lt K2; have := hb3.size; omega
  have p0 := blk_cell P4 0
  have p1 := blk_cell P4 1
  have p2 := blk_cell P4 2
  simp only [List.getElem?_toArray, List.getElem?_cons_zero, List.getElem?_cons_succ] at p0 p1 p2
  clear hb2 hb3 K2 K3 B2 B4 P4
  have m0 := blk_cell K4 0
  have m1 := blk_cell K4 1
  have f0 := blk_frozen K4 0
  have f1 := blk_frozen K4 1
  simp only [List.getElem?_toArray, List.getElem?_cons_zero, List.getElem?_cons_succ] at m0 m1
  have HB := Aside0.mk B5
  clear K4 B5
  have hU := HU.out
  clear HU
  rcases hU with ⟨k1, rfl⟩ | ⟨k1, k2, rfl⟩ | ⟨k1, k2, k3, rfl⟩ | ⟨k1, k2, k3, rfl, k4⟩ | ⟨k1, k2, k3, rfl, k4⟩
  · go_wp2_with fail
    rw [← hg8, ← hgp]
    clear hg8 hgp
    generalize w3.alloc (.cells #[.int .u64 Q, .bool over, .int .u64 L] 83) = w4 at *
    go_quiet (fail)
    have p0 : (w4.drewN nq).cell? ⟨gp, 0, none⟩ = some (.int .u64 Q) := p0
    have p1 : (w4.drewN nq).cell? ⟨gp, 1, none⟩ = some (.bool over) := p1
    have f0 : (w4.drewN nq).frozen? ⟨g8, 0, none⟩ = false := f0
    have f1 : (w4.drewN nq).frozen? ⟨g8, 1, none⟩ = false := f1
    have m0 : (w4.drewN nq).cell? ⟨g8, 0, none⟩ = some (.int .i64 0) := m0
    have m1 : (w4.drewN nq).cell? ⟨g8, 1, none⟩ = some (.bool false) := m1
    have HB : Aside0 (Below g8 w (w4.drewN nq)) := ⟨HB.out.trans ((pw_below_drewN (Below.refl _ _) nq).mono (by rw [HG.out]; exact HB.out.size))⟩
    generalize w4.drewN nq = w4 at *
    cases below with
    | false =>
      cases over with
      | false =>
        go_wp2_with fail
        all_goals (have hz := hZ.out; simp at hz)
        all_goals first
          | (refine bodyPost_ret (v := .agg #[.int .i64 (-9223372036854775808), .bool false]) (by simp [results, Try.results36, go_sem, m0, m1]; done) rfl (did_fin ?_ (Below.cast' ((HB.out.setCell (p := ⟨g8, 0, none⟩) (Nat.le_refl _) _).setCell (p := ⟨g8, 1, none⟩) (Nat.le_refl _) _) HG.out)); simp; unfold hold; (try unfold wrap64); omega)
          | (refine bodyPost_ret (v := .agg #[.int .i64 9223372036854775807, .bool false]) (by simp [results, Try.results36, go_sem, m0, m1]; done) rfl (did_fin ?_ (Below.cast' ((HB.out.setCell (p := ⟨g8, 0, none⟩) (Nat.le_refl _) _).setCell (p := ⟨g8, 1, none⟩) (Nat.le_refl _) _) HG.out)); simp; unfold hold; (try unfold wrap64); omega)
          | (refine bodyPost_ret (v := .agg #[.int .i64 Q, .bool true]) (by simp [results, Try.results36, go_sem, m0, m1]; done) rfl (did_fin ?_ (Below.cast' ((HB.out.setCell (p := ⟨g8, 0, none⟩) (Nat.le_refl _) _).setCell (p := ⟨g8, 1, none⟩) (Nat.le_refl _) _) HG.out)); simp; unfold hold; (try unfold wrap64); omega)
          | (refine bodyPost_ret (v := .agg #[.int .i64 (Q + 1), .bool true]) (by simp [results, Try.results36, go_sem, m0, m1]; done) rfl (did_fin ?_ (Below.cast' ((HB.out.setCell (p := ⟨g8, 0, none⟩) (Nat.le_refl _) _).setCell (p := ⟨g8, 1, none⟩) (Nat.le_refl _) _) HG.out)); simp; unfold hold; (try unfold wrap64); omega)
          | (refine bodyPost_ret (v := .agg #[.int .i64 (wrap64 (-wrap64 Q)), .bool true]) (by simp [results, Try.results36, go_sem, m0, m1]; done) rfl (did_fin ?_ (Below.cast' ((HB.out.setCell (p := ⟨g8, 0, none⟩) (Nat.le_refl _) _).setCell (p := ⟨g8, 1, none⟩) (Nat.le_refl _) _) HG.out)); simp; unfold hold; (try unfold wrap64); omega)
          | (refine bodyPost_ret (v := .agg #[.int .i64 (wrap64 (-wrap64 (Q + 1))), .bool true]) (by simp [results, Try.results36, go_sem, m0, m1]; done) rfl (did_fin ?_ (Below.cast' ((HB.out.setCell (p := ⟨g8, 0, none⟩) (Nat.le_refl _) _).setCell (p := ⟨g8, 1, none⟩) (Nat.le_refl _) _) HG.out)); simp; unfold hold; (try unfold wrap64); omega)
          | (refine bodyPost_ret (v := .agg #[.int .i64 (wrap64 Q), .bool true]) (by simp [results, Try.results36, go_sem, m0, m1]; done) rfl (did_fin ?_ (Below.cast' ((HB.out.setCell (p := ⟨g8, 0, none⟩) (Nat.le_refl _) _).setCell (p := ⟨g8, 1, none⟩) (Nat.le_refl _) _) HG.out)); simp; unfold hold; (try unfold wrap64); omega)
          | (refine bodyPost_ret (v := .agg #[.int .i64 (wrap64 (Q + 1)), .bool true]) (by simp [results, Try.results36, go_sem, m0, m1]; done) rfl (did_fin ?_ (Below.cast' ((HB.out.setCell (p := ⟨g8, 0, none⟩) (Nat.le_refl _) _).setCell (p := ⟨g8, 1, none⟩) (Nat.le_refl _) _) HG.out)); simp; unfold hold; (try unfold wrap64); omega)
      | true =>
        go_wp2_with fail
        all_goals (have hz := hZ.out; simp at hz)
        all_goals first
          | (refine bodyPost_ret (v := .agg #[.int .i64 (-9223372036854775808), .bool false]) (by simp [results, Try.results36, go_sem, m0, m1]; done) rfl (did_fin ?_ (Below.cast' ((HB.out.setCell (p := ⟨g8, 0, none⟩) (Nat.le_refl _) _).setCell (p := ⟨g8, 1, none⟩) (Nat.le_refl _) _) HG.out)); simp; unfold hold; (try unfold wrap64); omega)
          | (refine bodyPost_ret (v := .agg #[.int .i64 9223372036854775807, .bool false]) (by simp [results, Try.results36, go_sem, m0, m1]; done) rfl (did_fin ?_ (Below.cast' ((HB.out.setCell (p := ⟨g8, 0, none⟩) (Nat.le_refl _) _).setCell (p := ⟨g8, 1, none⟩) (Nat.le_refl _) _) HG.out)); simp; unfold hold; (try unfold wrap64); omega)
          | (refine bodyPost_ret (v := .agg #[.int .i64 Q, .bool true]) (by simp [results, Try.results36, go_sem, m0, m1]; done) rfl (did_fin ?_ (Below.cast' ((HB.out.setCell (p := ⟨g8, 0, none⟩) (Nat.le_refl _) _).setCell (p := ⟨g8, 1, none⟩) (Nat.le_refl _) _) HG.out)); simp; unfold hold; (try unfold wrap64); omega)
          | (refine bodyPost_ret (v := .agg #[.int .i64 (Q + 1), .bool true]) (by simp [results, Try.results36, go_sem, m0, m1]; done) rfl (did_fin ?_ (Below.cast' ((HB.out.setCell (p := ⟨g8, 0, none⟩) (Nat.le_refl _) _).setCell (p := ⟨g8, 1, none⟩) (Nat.le_refl _) _) HG.out)); simp; unfold hold; (try unfold wrap64); omega)
          | (refine bodyPost_ret (v := .agg #[.int .i64 (wrap64 (-wrap64 Q)), .bool true]) (by simp [results, Try.results36, go_sem, m0, m1]; done) rfl (did_fin ?_ (Below.cast' ((HB.out.setCell (p := ⟨g8, 0, none⟩) (Nat.le_refl _) _).setCell (p := ⟨g8, 1, none⟩) (Nat.le_refl _) _) HG.out)); simp; unfold hold; (try unfold wrap64); omega)
          | (refine bodyPost_ret (v := .agg #[.int .i64 (wrap64 (-wrap64 (Q + 1))), .bool true]) (by simp [results, Try.results36, go_sem, m0, m1]; done) rfl (did_fin ?_ (Below.cast' ((HB.out.setCell (p := ⟨g8, 0, none⟩) (Nat.le_refl _) _).setCell (p := ⟨g8, 1, none⟩) (Nat.le_refl _) _) HG.out)); simp; unfold hold; (try unfold wrap64); omega)
          | (refine bodyPost_ret (v := .agg #[.int .i64 (wrap64 Q), .bool true]) (by simp [results, Try.results36, go_sem, m0, m1]; done) rfl (did_fin ?_ (Below.cast' ((HB.out.setCell (p := ⟨g8, 0, none⟩) (Nat.le_refl _) _).setCell (p := ⟨g8, 1, none⟩) (Nat.le_refl _) _) HG.out)); simp; unfold hold; (try unfold wrap64); omega)
          | (refine bodyPost_ret (v := .agg #[.int .i64 (wrap64 (Q + 1)), .bool true]) (by simp [results, Try.results36, go_sem, m0, m1]; done) rfl (did_fin ?_ (Below.cast' ((HB.out.setCell (p := ⟨g8, 0, none⟩) (Nat.le_refl _) _).setCell (p := ⟨g8, 1, none⟩) (Nat.le_refl _) _) HG.out)); simp; unfold hold; (try unfold wrap64); omega)
    | true =>
      cases over with
      | false =>
        go_wp2_with fail
        all_goals (have hz := hZ.out; simp at hz)
        all_goals first
          | (refine bodyPost_ret (v := .agg #[.int .i64 (-9223372036854775808), .bool false]) (by simp [results, Try.results36, go_sem, m0, m1]; done) rfl (did_fin ?_ (Below.cast' ((HB.out.setCell (p := ⟨g8, 0, none⟩) (Nat.le_refl _) _).setCell (p := ⟨g8, 1, none⟩) (Nat.le_refl _) _) HG.out)); simp; unfold hold; (try unfold wrap64); omega)
          | (refine bodyPost_ret (v := .agg #[.int .i64 9223372036854775807, .bool false]) (by simp [results, Try.results36, go_sem, m0, m1]; done) rfl (did_fin ?_ (Below.cast' ((HB.out.setCell (p := ⟨g8, 0, none⟩) (Nat.le_refl _) _).setCell (p := ⟨g8, 1, none⟩) (Nat.le_refl _) _) HG.out)); simp; unfold hold; (try unfold wrap64); omega)
          | (refine bodyPost_ret (v := .agg #[.int .i64 Q, .bool true]) (by simp [results, Try.results36, go_sem, m0, m1]; done) rfl (did_fin ?_ (Below.cast' ((HB.out.setCell (p := ⟨g8, 0, none⟩) (Nat.le_refl _) _).setCell (p := ⟨g8, 1, none⟩) (Nat.le_refl _) _) HG.out)); simp; unfold hold; (try unfold wrap64); omega)
          | (refine bodyPost_ret (v := .agg #[.int .i64 (Q + 1), .bool true]) (by simp [results, Try.results36, go_sem, m0, m1]; done) rfl (did_fin ?_ (Below.cast' ((HB.out.setCell (p := ⟨g8, 0, none⟩) (Nat.le_refl _) _).setCell (p := ⟨g8, 1, none⟩) (Nat.le_refl _) _) HG.out)); simp; unfold hold; (try unfold wrap64); omega)
          | (refine bodyPost_ret (v := .agg #[.int .i64 (wrap64 (-wrap64 Q)), .bool true]) (by simp [results, Try.results36, go_sem, m0, m1]; done) rfl (did_fin ?_ (Below.cast' ((HB.out.setCell (p := ⟨g8, 0, none⟩) (Nat.le_refl _) _).setCell (p := ⟨g8, 1, none⟩) (Nat.le_refl _) _) HG.out)); simp; unfold hold; (try unfold wrap64); omega)
          | (refine bodyPost_ret (v := .agg #[.int .i64 (wrap64 (-wrap64 (Q + 1))), .bool true]) (by simp [results, Try.results36, go_sem, m0, m1]; done) rfl (did_fin ?_ (Below.cast' ((HB.out.setCell (p := ⟨g8, 0, none⟩) (Nat.le_refl _) _).setCell (p := ⟨g8, 1, none⟩) (Nat.le_refl _) _) HG.out)); simp; unfold hold; (try unfold wrap64); omega)
          | (refine bodyPost_ret (v := .agg #[.int .i64 (wrap64 Q), .bool true]) (by simp [results, Try.results36, go_sem, m0, m1]; done) rfl (did_fin ?_ (Below.cast' ((HB.out.setCell (p := ⟨g8, 0, none⟩) (Nat.le_refl _) _).setCell (p := ⟨g8, 1, none⟩) (Nat.le_refl _) _) HG.out)); simp; unfold hold; (try unfold wrap64); omega)
          | (refine bodyPost_ret (v := .agg #[.int .i64 (wrap64 (Q + 1)), .bool true]) (by simp [results, Try.results36, go_sem, m0, m1]; done) rfl (did_fin ?_ (Below.cast' ((HB.out.setCell (p := ⟨g8, 0, none⟩) (Nat.le_refl _) _).setCell (p := ⟨g8, 1, none⟩) (Nat.le_refl _) _) HG.out)); simp; unfold hold; (try unfold wrap64); omega)
      | true =>
        go_wp2_with fail
        all_goals (have hz := hZ.out; simp at hz)
        all_goals first
          | (refine bodyPost_ret (v := .agg #[.int .i64 (-9223372036854775808), .bool false]) (by simp [results, Try.results36, go_sem, m0, m1]; done) rfl (did_fin ?_ (Below.cast' ((HB.out.setCell (p := ⟨g8, 0, none⟩) (Nat.le_refl _) _).setCell (p := ⟨g8, 1, none⟩) (Nat.le_refl _) _) HG.out)); simp; unfold hold; (try unfold wrap64); omega)
          | (refine bodyPost_ret (v := .agg #[.int .i64 9223372036854775807, .bool false]) (by simp [results, Try.results36, go_sem, m0, m1]; done) rfl (did_fin ?_ (Below.cast' ((HB.out.setCell (p := ⟨g8, 0, none⟩) (Nat.le_refl _) _).setCell (p := ⟨g8, 1, none⟩) (Nat.le_refl _) _) HG.out)); simp; unfold hold; (try unfold wrap64); omega)
          | (refine bodyPost_ret (v := .agg #[.int .i64 Q, .bool true]) (by simp [results, Try.results36, go_sem, m0, m1]; done) rfl (did_fin ?_ (Below.cast' ((HB.out.setCell (p := ⟨g8, 0, none⟩) (Nat.le_refl _) _).setCell (p := ⟨g8, 1, none⟩) (Nat.le_refl _) _) HG.out)); simp; unfold hold; (try unfold wrap64); omega)
          | (refine bodyPost_ret (v := .agg #[.int .i64 (Q + 1), .bool true]) (by simp [results, Try.results36, go_sem, m0, m1]; done) rfl (did_fin ?_ (Below.cast' ((HB.out.setCell (p := ⟨g8, 0, none⟩) (Nat.le_refl _) _).setCell (p := ⟨g8, 1, none⟩) (Nat.le_refl _) _) HG.out)); simp; unfold hold; (try unfold wrap64); omega)
          | (refine bodyPost_ret (v := .agg #[.int .i64 (wrap64 (-wrap64 Q)), .bool true]) (by simp [results, Try.results36, go_sem, m0, m1]; done) rfl (did_fin ?_ (Below.cast' ((HB.out.setCell (p := ⟨g8, 0, none⟩) (Nat.le_refl _) _).setCell (p := ⟨g8, 1, none⟩) (Nat.le_refl _) _) HG.out)); simp; unfold hold; (try unfold wrap64); omega)
          | (refine bodyPost_ret (v := .agg #[.int .i64 (wrap64 (-wrap64 (Q + 1))), .bool true]) (by simp [results, Try.results36, go_sem, m0, m1]; done) rfl (did_fin ?_ (Below.cast' ((HB.out.setCell (p := ⟨g8, 0, none⟩) (Nat.le_refl _) _).setCell (p := ⟨g8, 1, none⟩) (Nat.le_refl _) _) HG.out)); simp; unfold hold; (try unfold wrap64); omega)
          | (refine bodyPost_ret (v := .agg #[.int .i64 (wrap64 Q), .bool true]) (by simp [results, Try.results36, go_sem, m0, m1]; done) rfl (did_fin ?_ (Below.cast' ((HB.out.setCell (p := ⟨g8, 0, none⟩) (Nat.le_refl _) _).setCell (p := ⟨g8, 1, none⟩) (Nat.le_refl _) _) HG.out)); simp; unfold hold; (try unfold wrap64); omega)
          | (refine bodyPost_ret (v := .agg #[.int .i64 (wrap64 (Q + 1)), .bool true]) (by simp [results, Try.results36, go_sem, m0, m1]; done) rfl (did_fin ?_ (Below.cast' ((HB.out.setCell (p := ⟨g8, 0, none⟩) (Nat.le_refl _) _).setCell (p := ⟨g8, 1, none⟩) (Nat.le_refl _) _) HG.out)); simp; unfold hold; (try unfold wrap64); omega)
  · go_wp2_with fail
    rw [← hg8, ← hgp]
    clear hg8 hgp
    generalize w3.alloc (.cells #[.int .u64 Q, .bool over, .int .u64 L] 83) = w4 at *
    go_quiet (fail)
    have p0 : (w4.drewN nq).cell? ⟨gp, 0, none⟩ = some (.int .u64 Q) := p0
    have p1 : (w4.drewN nq).cell? ⟨gp, 1, none⟩ = some (.bool over) := p1
    have f0 : (w4.drewN nq).frozen? ⟨g8, 0, none⟩ = false := f0
    have f1 : (w4.drewN nq).frozen? ⟨g8, 1, none⟩ = false := f1
    have m0 : (w4.drewN nq).cell? ⟨g8, 0, none⟩ = some (.int .i64 0) := m0
    have m1 : (w4.drewN nq).cell? ⟨g8, 1, none⟩ = some (.bool false) := m1
    have HB : Aside0 (Below g8 w (w4.drewN nq)) := ⟨HB.out.trans ((pw_below_drewN (Below.refl _ _) nq).mono (by rw [HG.out]; exact HB.out.size))⟩
    generalize w4.drewN nq = w4 at *
    cases U with
    | false =>
      cases over with
      | false =>
        by_cases hq : Q < 18446744073709551615
        · have kz : (Q + 1 == 0) = false := beq_eq_false_iff_ne.2 (by omega)
          go_wp2_with fail
          all_goals (have hz := hZ.out; simp at hz)
          all_goals first
            | (refine bodyPost_ret (v := .agg #[.int .i64 (-9223372036854775808), .bool false]) (by simp [results, Try.results36, go_sem, m0, m1]; done) rfl (did_fin ?_ (Below.cast' ((HB.out.setCell (p := ⟨g8, 0, none⟩) (Nat.le_refl _) _).setCell (p := ⟨g8, 1, none⟩) (Nat.le_refl _) _) HG.out)); simp; unfold hold; (try unfold wrap64); omega)
            | (refine bodyPost_ret (v := .agg #[.int .i64 9223372036854775807, .bool false]) (by simp [results, Try.results36, go_sem, m0, m1]; done) rfl (did_fin ?_ (Below.cast' ((HB.out.setCell (p := ⟨g8, 0, none⟩) (Nat.le_refl _) _).setCell (p := ⟨g8, 1, none⟩) (Nat.le_refl _) _) HG.out)); simp; unfold hold; (try unfold wrap64); omega)
            | (refine bodyPost_ret (v := .agg #[.int .i64 Q, .bool true]) (by simp [results, Try.results36, go_sem, m0, m1]; done) rfl (did_fin ?_ (Below.cast' ((HB.out.setCell (p := ⟨g8, 0, none⟩) (Nat.le_refl _) _).setCell (p := ⟨g8, 1, none⟩) (Nat.le_refl _) _) HG.out)); simp; unfold hold; (try unfold wrap64); omega)
            | (refine bodyPost_ret (v := .agg #[.int .i64 (Q + 1), .bool true]) (by simp [results, Try.results36, go_sem, m0, m1]; done) rfl (did_fin ?_ (Below.cast' ((HB.out.setCell (p := ⟨g8, 0, none⟩) (Nat.le_refl _) _).setCell (p := ⟨g8, 1, none⟩) (Nat.le_refl _) _) HG.out)); simp; unfold hold; (try unfold wrap64); omega)
            | (refine bodyPost_ret (v := .agg #[.int .i64 (wrap64 (-wrap64 Q)), .bool true]) (by simp [results, Try.results36, go_sem, m0, m1]; done) rfl (did_fin ?_ (Below.cast' ((HB.out.setCell (p := ⟨g8, 0, none⟩) (Nat.le_refl _) _).setCell (p := ⟨g8, 1, none⟩) (Nat.le_refl _) _) HG.out)); simp; unfold hold; (try unfold wrap64); omega)
            | (refine bodyPost_ret (v := .agg #[.int .i64 (wrap64 (-wrap64 (Q + 1))), .bool true]) (by simp [results, Try.results36, go_sem, m0, m1]; done) rfl (did_fin ?_ (Below.cast' ((HB.out.setCell (p := ⟨g8, 0, none⟩) (Nat.le_refl _) _).setCell (p := ⟨g8, 1, none⟩) (Nat.le_refl _) _) HG.out)); simp; unfold hold; (try unfold wrap64); omega)
            | (refine bodyPost_ret (v := .agg #[.int .i64 (wrap64 Q), .bool true]) (by simp [results, Try.results36, go_sem, m0, m1]; done) rfl (did_fin ?_ (Below.cast' ((HB.out.setCell (p := ⟨g8, 0, none⟩) (Nat.le_refl _) _).setCell (p := ⟨g8, 1, none⟩) (Nat.le_refl _) _) HG.out)); simp; unfold hold; (try unfold wrap64); omega)
            | (refine bodyPost_ret (v := .agg #[.int .i64 (wrap64 (Q + 1)), .bool true]) (by simp [results, Try.results36, go_sem, m0, m1]; done) rfl (did_fin ?_ (Below.cast' ((HB.out.setCell (p := ⟨g8, 0, none⟩) (Nat.le_refl _) _).setCell (p := ⟨g8, 1, none⟩) (Nat.le_refl _) _) HG.out)); simp; unfold hold; (try unfold wrap64); omega)
        · have hq2 : Q = 18446744073709551615 := by omega
          subst hq2
          go_wp2_with fail
          all_goals (have hz := hZ.out; simp at hz)
          all_goals first
            | (refine bodyPost_ret (v := .agg #[.int .i64 (-9223372036854775808), .bool false]) (by simp [results, Try.results36, go_sem, m0, m1]; done) rfl (did_fin ?_ (Below.cast' ((HB.out.setCell (p := ⟨g8, 0, none⟩) (Nat.le_refl _) _).setCell (p := ⟨g8, 1, none⟩) (Nat.le_refl _) _) HG.out)); simp; unfold hold; (try unfold wrap64); omega)
            | (refine bodyPost_ret (v := .agg #[.int .i64 9223372036854775807, .bool false]) (by simp [results, Try.results36, go_sem, m0, m1]; done) rfl (did_fin ?_ (Below.cast' ((HB.out.setCell (p := ⟨g8, 0, none⟩) (Nat.le_refl _) _).setCell (p := ⟨g8, 1, none⟩) (Nat.le_refl _) _) HG.out)); simp; unfold hold; (try unfold wrap64); omega)
            | (refine bodyPost_ret (v := .agg #[.int .i64 Q, .bool true]) (by simp [results, Try.results36, go_sem, m0, m1]; done) rfl (did_fin ?_ (Below.cast' ((HB.out.setCell (p := ⟨g8, 0, none⟩) (Nat.le_refl _) _).setCell (p := ⟨g8, 1, none⟩) (Nat.le_refl _) _) HG.out)); simp; unfold hold; (try unfold wrap64); omega)
            | (refine bodyPost_ret (v := .agg #[.int .i64 (Q + 1), .bool true]) (by simp [results, Try.results36, go_sem, m0, m1]; done) rfl (did_fin ?_ (Below.cast' ((HB.out.setCell (p := ⟨g8, 0, none⟩) (Nat.le_refl _) _).setCell (p := ⟨g8, 1, none⟩) (Nat.le_refl _) _) HG.out)); simp; unfold hold; (try unfold wrap64); omega)
            | (refine bodyPost_ret (v := .agg #[.int .i64 (wrap64 (-wrap64 Q)), .bool true]) (by simp [results, Try.results36, go_sem, m0, m1]; done) rfl (did_fin ?_ (Below.cast' ((HB.out.setCell (p := ⟨g8, 0, none⟩) (Nat.le_refl _) _).setCell (p := ⟨g8, 1, none⟩) (Nat.le_refl _) _) HG.out)); simp; unfold hold; (try unfold wrap64); omega)
            | (refine bodyPost_ret (v := .agg #[.int .i64 (wrap64 (-wrap64 (Q + 1))), .bool true]) (by simp [results, Try.results36, go_sem, m0, m1]; done) rfl (did_fin ?_ (Below.cast' ((HB.out.setCell (p := ⟨g8, 0, none⟩) (Nat.le_refl _) _).setCell (p := ⟨g8, 1, none⟩) (Nat.le_refl _) _) HG.out)); simp; unfold hold; (try unfold wrap64); omega)
            | (refine bodyPost_ret (v := .agg #[.int .i64 (wrap64 Q), .bool true]) (by simp [results, Try.results36, go_sem, m0, m1]; done) rfl (did_fin ?_ (Below.cast' ((HB.out.setCell (p := ⟨g8, 0, none⟩) (Nat.le_refl _) _).setCell (p := ⟨g8, 1, none⟩) (Nat.le_refl _) _) HG.out)); simp; unfold hold; (try unfold wrap64); omega)
            | (refine bodyPost_ret (v := .agg #[.int .i64 (wrap64 (Q + 1)), .bool true]) (by simp [results, Try.results36, go_sem, m0, m1]; done) rfl (did_fin ?_ (Below.cast' ((HB.out.setCell (p := ⟨g8, 0, none⟩) (Nat.le_refl _) _).setCell (p := ⟨g8, 1, none⟩) (Nat.le_refl _) _) HG.out)); simp; unfold hold; (try unfold wrap64); omega)
      | true =>
        by_cases hq : Q < 18446744073709551615
        · have kz : (Q + 1 == 0) = false := beq_eq_false_iff_ne.2 (by omega)
          go_wp2_with fail
          all_goals (have hz := hZ.out; simp at hz)
          all_goals first
            | (refine bodyPost_ret (v := .agg #[.int .i64 (-9223372036854775808), .bool false]) (by simp [results, Try.results36, go_sem, m0, m1]; done) rfl (did_fin ?_ (Below.cast' ((HB.out.setCell (p := ⟨g8, 0, none⟩) (Nat.le_refl _) _).setCell (p := ⟨g8, 1, none⟩) (Nat.le_refl _) _) HG.out)); simp; unfold hold; (try unfold wrap64); omega)
            | (refine bodyPost_ret (v := .agg #[.int .i64 9223372036854775807, .bool false]) (by simp [results, Try.results36, go_sem, m0, m1]; done) rfl (did_fin ?_ (Below.cast' ((HB.out.setCell (p := ⟨g8, 0, none⟩) (Nat.le_refl _) _).setCell (p := ⟨g8, 1, none⟩) (Nat.le_refl _) _) HG.out)); simp; unfold hold; (try unfold wrap64); omega)
            | (refine bodyPost_ret (v := .agg #[.int .i64 Q, .bool true]) (by simp [results, Try.results36, go_sem, m0, m1]; done) rfl (did_fin ?_ (Below.cast' ((HB.out.setCell (p := ⟨g8, 0, none⟩) (Nat.le_refl _) _).setCell (p := ⟨g8, 1, none⟩) (Nat.le_refl _) _) HG.out)); simp; unfold hold; (try unfold wrap64); omega)
            | (refine bodyPost_ret (v := .agg #[.int .i64 (Q + 1), .bool true]) (by simp [results, Try.results36, go_sem, m0, m1]; done) rfl (did_fin ?_ (Below.cast' ((HB.out.setCell (p := ⟨g8, 0, none⟩) (Nat.le_refl _) _).setCell (p := ⟨g8, 1, none⟩) (Nat.le_refl _) _) HG.out)); simp; unfold hold; (try unfold wrap64); omega)
            | (refine bodyPost_ret (v := .agg #[.int .i64 (wrap64 (-wrap64 Q)), .bool true]) (by simp [results, Try.results36, go_sem, m0, m1]; done) rfl (did_fin ?_ (Below.cast' ((HB.out.setCell (p := ⟨g8, 0, none⟩) (Nat.le_refl _) _).setCell (p := ⟨g8, 1, none⟩) (Nat.le_refl _) _) HG.out)); simp; unfold hold; (try unfold wrap64); omega)
            | (refine bodyPost_ret (v := .agg #[.int .i64 (wrap64 (-wrap64 (Q + 1))), .bool true]) (by simp [results, Try.results36, go_sem, m0, m1]; done) rfl (did_fin ?_ (Below.cast' ((HB.out.setCell (p := ⟨g8, 0, none⟩) (Nat.le_refl _) _).setCell (p := ⟨g8, 1, none⟩) (Nat.le_refl _) _) HG.out)); simp; unfold hold; (try unfold wrap64); omega)
            | (refine bodyPost_ret (v := .agg #[.int .i64 (wrap64 Q), .bool true]) (by simp [results, Try.results36, go_sem, m0, m1]; done) rfl (did_fin ?_ (Below.cast' ((HB.out.setCell (p := ⟨g8, 0, none⟩) (Nat.le_refl _) _).setCell (p := ⟨g8, 1, none⟩) (Nat.le_refl _) _) HG.out)); simp; unfold hold; (try unfold wrap64); omega)
            | (refine bodyPost_ret (v := .agg #[.int .i64 (wrap64 (Q + 1)), .bool true]) (by simp [results, Try.results36, go_sem, m0, m1]; done) rfl (did_fin ?_ (Below.cast' ((HB.out.setCell (p := ⟨g8, 0, none⟩) (Nat.le_refl _) _).setCell (p := ⟨g8, 1, none⟩) (Nat.le_refl _) _) HG.out)); simp; unfold hold; (try unfold wrap64); omega)
        · have hq2 : Q = 18446744073709551615 := by omega
          subst hq2
          go_wp2_with fail
          all_goals (have hz := hZ.out; simp at hz)
          all_goals first
            | (refine bodyPost_ret (v := .agg #[.int .i64 (-9223372036854775808), .bool false]) (by simp [results, Try.results36, go_sem, m0, m1]; done) rfl (did_fin ?_ (Below.cast' ((HB.out.setCell (p := ⟨g8, 0, none⟩) (Nat.le_refl _) _).setCell (p := ⟨g8, 1, none⟩) (Nat.le_refl _) _) HG.out)); simp; unfold hold; (try unfold wrap64); omega)
            | (refine bodyPost_ret (v := .agg #[.int .i64 9223372036854775807, .bool false]) (by simp [results, Try.results36, go_sem, m0, m1]; done) rfl (did_fin ?_ (Below.cast' ((HB.out.setCell (p := ⟨g8, 0, none⟩) (Nat.le_refl _) _).setCell (p := ⟨g8, 1, none⟩) (Nat.le_refl _) _) HG.out)); simp; unfold hold; (try unfold wrap64); omega)
            | (refine bodyPost_ret (v := .agg #[.int .i64 Q, .bool true]) (by simp [results, Try.results36, go_sem, m0, m1]; done) rfl (did_fin ?_ (Below.cast' ((HB.out.setCell (p := ⟨g8, 0, none⟩) (Nat.le_refl _) _).setCell (p := ⟨g8, 1, none⟩) (Nat.le_refl _) _) HG.out)); simp; unfold hold; (try unfold wrap64); omega)
            | (refine bodyPost_ret (v := .agg #[.int .i64 (Q + 1), .bool true]) (by simp [results, Try.results36, go_sem, m0, m1]; done) rfl (did_fin ?_ (Below.cast' ((HB.out.setCell (p := ⟨g8, 0, none⟩) (Nat.le_refl _) _).setCell (p := ⟨g8, 1, none⟩) (Nat.le_refl _) _) HG.out)); simp; unfold hold; (try unfold wrap64); omega)
            | (refine bodyPost_ret (v := .agg #[.int .i64 (wrap64 (-wrap64 Q)), .bool true]) (by simp [results, Try.results36, go_sem, m0, m1]; done) rfl (did_fin ?_ (Below.cast' ((HB.out.setCell (p := ⟨g8, 0, none⟩) (Nat.le_refl _) _).setCell (p := ⟨g8, 1, none⟩) (Nat.le_refl _) _) HG.out)); simp; unfold hold; (try unfold wrap64); omega)
            | (refine bodyPost_ret (v := .agg #[.int .i64 (wrap64 (-wrap64 (Q + 1))), .bool true]) (by simp [results, Try.results36, go_sem, m0, m1]; done) rfl (did_fin ?_ (Below.cast' ((HB.out.setCell (p := ⟨g8, 0, none⟩) (Nat.le_refl _) _).setCell (p := ⟨g8, 1, none⟩) (Nat.le_refl _) _) HG.out)); simp; unfold hold; (try unfold wrap64); omega)
            | (refine bodyPost_ret (v := .agg #[.int .i64 (wrap64 Q), .bool true]) (by simp [results, Try.results36, go_sem, m0, m1]; done) rfl (did_fin ?_ (Below.cast' ((HB.out.setCell (p := ⟨g8, 0, none⟩) (Nat.le_refl _) _).setCell (p := ⟨g8, 1, none⟩) (Nat.le_refl _) _) HG.out)); simp; unfold hold; (try unfold wrap64); omega)
            | (refine bodyPost_ret (v := .agg #[.int .i64 (wrap64 (Q + 1)), .bool true]) (by simp [results, Try.results36, go_sem, m0, m1]; done) rfl (did_fin ?_ (Below.cast' ((HB.out.setCell (p := ⟨g8, 0, none⟩) (Nat.le_refl _) _).setCell (p := ⟨g8, 1, none⟩) (Nat.le_refl _) _) HG.out)); simp; unfold hold; (try unfold wrap64); omega)
    | true =>
      cases over with
      | false =>
        by_cases hq : Q < 18446744073709551615
        · have kz : (Q + 1 == 0) = false := beq_eq_false_iff_ne.2 (by omega)
          go_wp2_with fail
          all_goals (have hz := hZ.out; simp at hz)
          all_goals first
            | (refine bodyPost_ret (v := .agg #[.int .i64 (-9223372036854775808), .bool false]) (by simp [results, Try.results36, go_sem, m0, m1]; done) rfl (did_fin ?_ (Below.cast' ((HB.out.setCell (p := ⟨g8, 0, none⟩) (Nat.le_refl _) _).setCell (p := ⟨g8, 1, none⟩) (Nat.le_refl _) _) HG.out)); simp; unfold hold; (try unfold wrap64); omega)
            | (refine bodyPost_ret (v := .agg #[.int .i64 9223372036854775807, .bool false]) (by simp [results, Try.results36, go_sem, m0, m1]; done) rfl (did_fin ?_ (Below.cast' ((HB.out.setCell (p := ⟨g8, 0, none⟩) (Nat.le_refl _) _).setCell (p := ⟨g8, 1, none⟩) (Nat.le_refl _) _) HG.out)); simp; unfold hold; (try unfold wrap64); omega)
            | (refine bodyPost_ret (v := .agg #[.int .i64 Q, .bool true]) (by simp [results, Try.results36, go_sem, m0, m1]; done) rfl (did_fin ?_ (Below.cast' ((HB.out.setCell (p := ⟨g8, 0, none⟩) (Nat.le_refl _) _).setCell (p := ⟨g8, 1, none⟩) (Nat.le_refl _) _) HG.out)); simp; unfold hold; (try unfold wrap64); omega)
            | (refine bodyPost_ret (v := .agg #[.int .i64 (Q + 1), .bool true]) (by simp [results, Try.results36, go_sem, m0, m1]; done) rfl (did_fin ?_ (Below.cast' ((HB.out.setCell (p := ⟨g8, 0, none⟩) (Nat.le_refl _) _).setCell (p := ⟨g8, 1, none⟩) (Nat.le_refl _) _) HG.out)); simp; unfold hold; (try unfold wrap64); omega)
            | (refine bodyPost_ret (v := .agg #[.int .i64 (wrap64 (-wrap64 Q)), .bool true]) (by simp [results, Try.results36, go_sem, m0, m1]; done) rfl (did_fin ?_ (Below.cast' ((HB.out.setCell (p := ⟨g8, 0, none⟩) (Nat.le_refl _) _).setCell (p := ⟨g8, 1, none⟩) (Nat.le_refl _) _) HG.out)); simp; unfold hold; (try unfold wrap64); omega)
            | (refine bodyPost_ret (v := .agg #[.int .i64 (wrap64 (-wrap64 (Q + 1))), .bool true]) (by simp [results, Try.results36, go_sem, m0, m1]; done) rfl (did_fin ?_ (Below.cast' ((HB.out.setCell (p := ⟨g8, 0, none⟩) (Nat.le_refl _) _).setCell (p := ⟨g8, 1, none⟩) (Nat.le_refl _) _) HG.out)); simp; unfold hold; (try unfold wrap64); omega)
            | (refine bodyPost_ret (v := .agg #[.int .i64 (wrap64 Q), .bool true]) (by simp [results, Try.results36, go_sem, m0, m1]; done) rfl (did_fin ?_ (Below.cast' ((HB.out.setCell (p := ⟨g8, 0, none⟩) (Nat.le_refl _) _).setCell (p := ⟨g8, 1, none⟩) (Nat.le_refl _) _) HG.out)); simp; unfold hold; (try unfold wrap64); omega)
            | (refine bodyPost_ret (v := .agg #[.int .i64 (wrap64 (Q + 1)), .bool true]) (by simp [results, Try.results36, go_sem, m0, m1]; done) rfl (did_fin ?_ (Below.cast' ((HB.out.setCell (p := ⟨g8, 0, none⟩) (Nat.le_refl _) _).setCell (p := ⟨g8, 1, none⟩) (Nat.le_refl _) _) HG.out)); simp; unfold hold; (try unfold wrap64); omega)
        · have hq2 : Q = 18446744073709551615 := by omega
          subst hq2
          go_wp2_with fail
          all_goals (have hz := hZ.out; simp at hz)
          all_goals first
            | (refine bodyPost_ret (v := .agg #[.int .i64 (-9223372036854775808), .bool false]) (by simp [results, Try.results36, go_sem, m0, m1]; done) rfl (did_fin ?_ (Below.cast' ((HB.out.setCell (p := ⟨g8, 0, none⟩) (Nat.le_refl _) _).setCell (p := ⟨g8, 1, none⟩) (Nat.le_refl _) _) HG.out)); simp; unfold hold; (try unfold wrap64); omega)
            | (refine bodyPost_ret (v := .agg #[.int .i64 9223372036854775807, .bool false]) (by simp [results, Try.results36, go_sem, m0, m1]; done) rfl (did_fin ?_ (Below.cast' ((HB.out.setCell (p := ⟨g8, 0, none⟩) (Nat.le_refl _) _).setCell (p := ⟨g8, 1, none⟩) (Nat.le_refl _) _) HG.out)); simp; unfold hold; (try unfold wrap64); omega)
            | (refine bodyPost_ret (v := .agg #[.int .i64 Q, .bool true]) (by simp [results, Try.results36, go_sem, m0, m1]; done) rfl (did_fin ?_ (Below.cast' ((HB.out.setCell (p := ⟨g8, 0, none⟩) (Nat.le_refl _) _).setCell (p := ⟨g8, 1, none⟩) (Nat.le_refl _) _) HG.out)); simp; unfold hold; (try unfold wrap64); omega)
            | (refine bodyPost_ret (v := .agg #[.int .i64 (Q + 1), .bool true]) (by simp [results, Try.results36, go_sem, m0, m1]; done) rfl (did_fin ?_ (Below.cast' ((HB.out.setCell (p := ⟨g8, 0, none⟩) (Nat.le_refl _) _).setCell (p := ⟨g8, 1, none⟩) (Nat.le_refl _) _) HG.out)); simp; unfold hold; (try unfold wrap64); omega)
            | (refine bodyPost_ret (v := .agg #[.int .i64 (wrap64 (-wrap64 Q)), .bool true]) (by simp [results, Try.results36, go_sem, m0, m1]; done) rfl (did_fin ?_ (Below.cast' ((HB.out.setCell (p := ⟨g8, 0, none⟩) (Nat.le_refl _) _).setCell (p := ⟨g8, 1, none⟩) (Nat.le_refl _) _) HG.out)); simp; unfold hold; (try unfold wrap64); omega)
            | (refine bodyPost_ret (v := .agg #[.int .i64 (wrap64 (-wrap64 (Q + 1))), .bool true]) (by simp [results, Try.results36, go_sem, m0, m1]; done) rfl (did_fin ?_ (Below.cast' ((HB.out.setCell (p := ⟨g8, 0, none⟩) (Nat.le_refl _) _).setCell (p := ⟨g8, 1, none⟩) (Nat.le_refl _) _) HG.out)); simp; unfold hold; (try unfold wrap64); omega)
            | (refine bodyPost_ret (v := .agg #[.int .i64 (wrap64 Q), .bool true]) (by simp [results, Try.results36, go_sem, m0, m1]; done) rfl (did_fin ?_ (Below.cast' ((HB.out.setCell (p := ⟨g8, 0, none⟩) (Nat.le_refl _) _).setCell (p := ⟨g8, 1, none⟩) (Nat.le_refl _) _) HG.out)); simp; unfold hold; (try unfold wrap64); omega)
            | (refine bodyPost_ret (v := .agg #[.int .i64 (wrap64 (Q + 1)), .bool true]) (by simp [results, Try.results36, go_sem, m0, m1]; done) rfl (did_fin ?_ (Below.cast' ((HB.out.setCell (p := ⟨g8, 0, none⟩) (Nat.le_refl _) _).setCell (p := ⟨g8, 1, none⟩) (Nat.le_refl _) _) HG.out)); simp; unfold hold; (try unfold wrap64); omega)
      | true =>
        by_cases hq : Q < 18446744073709551615
        · have kz : (Q + 1 == 0) = false := beq_eq_false_iff_ne.2 (by omega)
          go_wp2_with fail
          all_goals (have hz := hZ.out; simp at hz)
          all_goals first
            | (refine bodyPost_ret (v := .agg #[.int .i64 (-9223372036854775808), .bool false]) (by simp [results, Try.results36, go_sem, m0, m1]; done) rfl (did_fin ?_ (Below.cast' ((HB.out.setCell (p := ⟨g8, 0, none⟩) (Nat.le_refl _) _).setCell (p := ⟨g8, 1, none⟩) (Nat.le_refl _) _) HG.out)); simp; unfold hold; (try unfold wrap64); omega)
            | (refine bodyPost_ret (v := .agg #[.int .i64 9223372036854775807, .bool false]) (by simp [results, Try.results36, go_sem, m0, m1]; done) rfl (did_fin ?_ (Below.cast' ((HB.out.setCell (p := ⟨g8, 0, none⟩) (Nat.le_refl _) _).setCell (p := ⟨g8, 1, none⟩) (Nat.le_refl _) _) HG.out)); simp; unfold hold; (try unfold wrap64); omega)
            | (refine bodyPost_ret (v := .agg #[.int .i64 Q, .bool true]) (by simp [results, Try.results36, go_sem, m0, m1]; done) rfl (did_fin ?_ (Below.cast' ((HB.out.setCell (p := ⟨g8, 0, none⟩) (Nat.le_refl _) _).setCell (p := ⟨g8, 1, none⟩) (Nat.le_refl _) _) HG.out)); simp; unfold hold; (try unfold wrap64); omega)
            | (refine bodyPost_ret (v := .agg #[.int .i64 (Q + 1), .bool true]) (by simp [results, Try.results36, go_sem, m0, m1]; done) rfl (did_fin ?_ (Below.cast' ((HB.out.setCell (p := ⟨g8, 0, none⟩) (Nat.le_refl _) _).setCell (p := ⟨g8, 1, none⟩) (Nat.le_refl _) _) HG.out)); simp; unfold hold; (try unfold wrap64); omega)
            | (refine bodyPost_ret (v := .agg #[.int .i64 (wrap64 (-wrap64 Q)), .bool true]) (by simp [results, Try.results36, go_sem, m0, m1]; done) rfl (did_fin ?_ (Below.cast' ((HB.out.setCell (p := ⟨g8, 0, none⟩) (Nat.le_refl _) _).setCell (p := ⟨g8, 1, none⟩) (Nat.le_refl _) _) HG.out)); simp; unfold hold; (try unfold wrap64); omega)
            | (refine bodyPost_ret (v := .agg #[.int .i64 (wrap64 (-wrap64 (Q + 1))), .bool true]) (by simp [results, Try.results36, go_sem, m0, m1]; done) rfl (did_fin ?_ (Below.cast' ((HB.out.setCell (p := ⟨g8, 0, none⟩) (Nat.le_refl _) _).setCell (p := ⟨g8, 1, none⟩) (Nat.le_refl _) _) HG.out)); simp; unfold hold; (try unfold wrap64); omega)
            | (refine bodyPost_ret (v := .agg #[.int .i64 (wrap64 Q), .bool true]) (by simp [results, Try.results36, go_sem, m0, m1]; done) rfl (did_fin ?_ (Below.cast' ((HB.out.setCell (p := ⟨g8, 0, none⟩) (Nat.le_refl _) _).setCell (p := ⟨g8, 1, none⟩) (Nat.le_refl _) _) HG.out)); simp; unfold hold; (try unfold wrap64); omega)
            | (refine bodyPost_ret (v := .agg #[.int .i64 (wrap64 (Q + 1)), .bool true]) (by simp [results, Try.results36, go_sem, m0, m1]; done) rfl (did_fin ?_ (Below.cast' ((HB.out.setCell (p := ⟨g8, 0, none⟩) (Nat.le_refl _) _).setCell (p := ⟨g8, 1, none⟩) (Nat.le_refl _) _) HG.out)); simp; unfold hold; (try unfold wrap64); omega)
        · have hq2 : Q = 18446744073709551615 := by omega
          subst hq2
          go_wp2_with fail
          all_goals (have hz := hZ.out; simp at hz)
          all_goals first
            | (refine bodyPost_ret (v := .agg #[.int .i64 (-9223372036854775808), .bool false]) (by simp [results, Try.results36, go_sem, m0, m1]; done) rfl (did_fin ?_ (Below.cast' ((HB.out.setCell (p := ⟨g8, 0, none⟩) (Nat.le_refl _) _).setCell (p := ⟨g8, 1, none⟩) (Nat.le_refl _) _) HG.out)); simp; unfold hold; (try unfold wrap64); omega)
            | (refine bodyPost_ret (v := .agg #[.int .i64 9223372036854775807, .bool false]) (by simp [results, Try.results36, go_sem, m0, m1]; done) rfl (did_fin ?_ (Below.cast' ((HB.out.setCell (p := ⟨g8, 0, none⟩) (Nat.le_refl _) _).setCell (p := ⟨g8, 1, none⟩) (Nat.le_refl _) _) HG.out)); simp; unfold hold; (try unfold wrap64); omega)
            | (refine bodyPost_ret (v := .agg #[.int .i64 Q, .bool true]) (by simp [results, Try.results36, go_sem, m0, m1]; done) rfl (did_fin ?_ (Below.cast' ((HB.out.setCell (p := ⟨g8, 0, none⟩) (Nat.le_refl _) _).setCell (p := ⟨g8, 1, none⟩) (Nat.le_refl _) _) HG.out)); simp; unfold hold; (try unfold wrap64); omega)
            | (refine bodyPost_ret (v := .agg #[.int .i64 (Q + 1), .bool true]) (by simp [results, Try.results36, go_sem, m0, m1]; done) rfl (did_fin ?_ (Below.cast' ((HB.out.setCell (p := ⟨g8, 0, none⟩) (Nat.le_refl _) _).setCell (p := ⟨g8, 1, none⟩) (Nat.le_refl _) _) HG.out)); simp; unfold hold; (try unfold wrap64); omega)
            | (refine bodyPost_ret (v := .agg #[.int .i64 (wrap64 (-wrap64 Q)), .bool true]) (by simp [results, Try.results36, go_sem, m0, m1]; done) rfl (did_fin ?_ (Below.cast' ((HB.out.setCell (p := ⟨g8, 0, none⟩) (Nat.le_refl _) _).setCell (p := ⟨g8, 1, none⟩) (Nat.le_refl _) _) HG.out)); simp; unfold hold; (try unfold wrap64); omega)
            | (refine bodyPost_ret (v := .agg #[.int .i64 (wrap64 (-wrap64 (Q + 1))), .bool true]) (by simp [results, Try.results36, go_sem, m0, m1]; done) rfl (did_fin ?_ (Below.cast' ((HB.out.setCell (p := ⟨g8, 0, none⟩) (Nat.le_refl _) _).setCell (p := ⟨g8, 1, none⟩) (Nat.le_refl _) _) HG.out)); simp; unfold hold; (try unfold wrap64); omega)
            | (refine bodyPost_ret (v := .agg #[.int .i64 (wrap64 Q), .bool true]) (by simp [results, Try.results36, go_sem, m0, m1]; done) rfl (did_fin ?_ (Below.cast' ((HB.out.setCell (p := ⟨g8, 0, none⟩) (Nat.le_refl _) _).setCell (p := ⟨g8, 1, none⟩) (Nat.le_refl _) _) HG.out)); simp; unfold hold; (try unfold wrap64); omega)
            | (refine bodyPost_ret (v := .agg #[.int .i64 (wrap64 (Q + 1)), .bool true]) (by simp [results, Try.results36, go_sem, m0, m1]; done) rfl (did_fin ?_ (Below.cast' ((HB.out.setCell (p := ⟨g8, 0, none⟩) (Nat.le_refl _) _).setCell (p := ⟨g8, 1, none⟩) (Nat.le_refl _) _) HG.out)); simp; unfold hold; (try unfold wrap64); omega)
  · go_wp2_with fail
    rw [← hg8, ← hgp]
    clear hg8 hgp
    generalize w3.alloc (.cells #[.int .u64 Q, .bool over, .int .u64 L] 83) = w4 at *
    go_quiet (fail)
    have p0 : (w4.drewN nq).cell? ⟨gp, 0, none⟩ = some (.int .u64 Q) := p0
    have p1 : (w4.drewN nq).cell? ⟨gp, 1, none⟩ = some (.bool over) := p1
    have f0 : (w4.drewN nq).frozen? ⟨g8, 0, none⟩ = false := f0
    have f1 : (w4.drewN nq).frozen? ⟨g8, 1, none⟩ = false := f1
    have m0 : (w4.drewN nq).cell? ⟨g8, 0, none⟩ = some (.int .i64 0) := m0
    have m1 : (w4.drewN nq).cell? ⟨g8, 1, none⟩ = some (.bool false) := m1
    have HB : Aside0 (Below g8 w (w4.drewN nq)) := ⟨HB.out.trans ((pw_below_drewN (Below.refl _ _) nq).mono (by rw [HG.out]; exact HB.out.size))⟩
    generalize w4.drewN nq = w4 at *
    cases below with
    | false =>
      cases over with
      | false =>
        by_cases hq : Q < 18446744073709551615
        · have kz : (Q + 1 == 0) = false := beq_eq_false_iff_ne.2 (by omega)
          go_wp2_with fail
          all_goals (have hz := hZ.out; simp at hz)
          all_goals first
            | (refine bodyPost_ret (v := .agg #[.int .i64 (-9223372036854775808), .bool false]) (by simp [results, Try.results36, go_sem, m0, m1]; done) rfl (did_fin ?_ (Below.cast' ((HB.out.setCell (p := ⟨g8, 0, none⟩) (Nat.le_refl _) _).setCell (p := ⟨g8, 1, none⟩) (Nat.le_refl _) _) HG.out)); simp; unfold hold; (try unfold wrap64); omega)
            | (refine bodyPost_ret (v := .agg #[.int .i64 9223372036854775807, .bool false]) (by simp [results, Try.results36, go_sem, m0, m1]; done) rfl (did_fin ?_ (Below.cast' ((HB.out.setCell (p := ⟨g8, 0, none⟩) (Nat.le_refl _) _).setCell (p := ⟨g8, 1, none⟩) (Nat.le_refl _) _) HG.out)); simp; unfold hold; (try unfold wrap64); omega)
            | (refine bodyPost_ret (v := .agg #[.int .i64 Q, .bool true]) (by simp [results, Try.results36, go_sem, m0, m1]; done) rfl (did_fin ?_ (Below.cast' ((HB.out.setCell (p := ⟨g8, 0, none⟩) (Nat.le_refl _) _).setCell (p := ⟨g8, 1, none⟩) (Nat.le_refl _) _) HG.out)); simp; unfold hold; (try unfold wrap64); omega)
            | (refine bodyPost_ret (v := .agg #[.int .i64 (Q + 1), .bool true]) (by simp [results, Try.results36, go_sem, m0, m1]; done) rfl (did_fin ?_ (Below.cast' ((HB.out.setCell (p := ⟨g8, 0, none⟩) (Nat.le_refl _) _).setCell (p := ⟨g8, 1, none⟩) (Nat.le_refl _) _) HG.out)); simp; unfold hold; (try unfold wrap64); omega)
            | (refine bodyPost_ret (v := .agg #[.int .i64 (wrap64 (-wrap64 Q)), .bool true]) (by simp [results, Try.results36, go_sem, m0, m1]; done) rfl (did_fin ?_ (Below.cast' ((HB.out.setCell (p := ⟨g8, 0, none⟩) (Nat.le_refl _) _).setCell (p := ⟨g8, 1, none⟩) (Nat.le_refl _) _) HG.out)); simp; unfold hold; (try unfold wrap64); omega)
            | (refine bodyPost_ret (v := .agg #[.int .i64 (wrap64 (-wrap64 (Q + 1))), .bool true]) (by simp [results, Try.results36, go_sem, m0, m1]; done) rfl (did_fin ?_ (Below.cast' ((HB.out.setCell (p := ⟨g8, 0, none⟩) (Nat.le_refl _) _).setCell (p := ⟨g8, 1, none⟩) (Nat.le_refl _) _) HG.out)); simp; unfold hold; (try unfold wrap64); omega)
            | (refine bodyPost_ret (v := .agg #[.int .i64 (wrap64 Q), .bool true]) (by simp [results, Try.results36, go_sem, m0, m1]; done) rfl (did_fin ?_ (Below.cast' ((HB.out.setCell (p := ⟨g8, 0, none⟩) (Nat.le_refl _) _).setCell (p := ⟨g8, 1, none⟩) (Nat.le_refl _) _) HG.out)); simp; unfold hold; (try unfold wrap64); omega)
            | (refine bodyPost_ret (v := .agg #[.int .i64 (wrap64 (Q + 1)), .bool true]) (by simp [results, Try.results36, go_sem, m0, m1]; done) rfl (did_fin ?_ (Below.cast' ((HB.out.setCell (p := ⟨g8, 0, none⟩) (Nat.le_refl _) _).setCell (p := ⟨g8, 1, none⟩) (Nat.le_refl _) _) HG.out)); simp; unfold hold; (try unfold wrap64); omega)
        · have hq2 : Q = 18446744073709551615 := by omega
          subst hq2
          go_wp2_with fail
          all_goals (have hz := hZ.out; simp at hz)
          all_goals first
            | (refine bodyPost_ret (v := .agg #[.int .i64 (-9223372036854775808), .bool false]) (by simp [results, Try.results36, go_sem, m0, m1]; done) rfl (did_fin ?_ (Below.cast' ((HB.out.setCell (p := ⟨g8, 0, none⟩) (Nat.le_refl _) _).setCell (p := ⟨g8, 1, none⟩) (Nat.le_refl _) _) HG.out)); simp; unfold hold; (try unfold wrap64); omega)
            | (refine bodyPost_ret (v := .agg #[.int .i64 9223372036854775807, .bool false]) (by simp [results, Try.results36, go_sem, m0, m1]; done) rfl (did_fin ?_ (Below.cast' ((HB.out.setCell (p := ⟨g8, 0, none⟩) (Nat.le_refl _) _).setCell (p := ⟨g8, 1, none⟩) (Nat.le_refl _) _) HG.out)); simp; unfold hold; (try unfold wrap64); omega)
            | (refine bodyPost_ret (v := .agg #[.int .i64 Q, .bool true]) (by simp [results, Try.results36, go_sem, m0, m1]; done) rfl (did_fin ?_ (Below.cast' ((HB.out.setCell (p := ⟨g8, 0, none⟩) (Nat.le_refl _) _).setCell (p := ⟨g8, 1, none⟩) (Nat.le_refl _) _) HG.out)); simp; unfold hold; (try unfold wrap64); omega)
            | (refine bodyPost_ret (v := .agg #[.int .i64 (Q + 1), .bool true]) (by simp [results, Try.results36, go_sem, m0, m1]; done) rfl (did_fin ?_ (Below.cast' ((HB.out.setCell (p := ⟨g8, 0, none⟩) (Nat.le_refl _) _).setCell (p := ⟨g8, 1, none⟩) (Nat.le_refl _) _) HG.out)); simp; unfold hold; (try unfold wrap64); omega)
            | (refine bodyPost_ret (v := .agg #[.int .i64 (wrap64 (-wrap64 Q)), .bool true]) (by simp [results, Try.results36, go_sem, m0, m1]; done) rfl (did_fin ?_ (Below.cast' ((HB.out.setCell (p := ⟨g8, 0, none⟩) (Nat.le_refl _) _).setCell (p := ⟨g8, 1, none⟩) (Nat.le_refl _) _) HG.out)); simp; unfold hold; (try unfold wrap64); omega)
            | (refine bodyPost_ret (v := .agg #[.int .i64 (wrap64 (-wrap64 (Q + 1))), .bool true]) (by simp [results, Try.results36, go_sem, m0, m1]; done) rfl (did_fin ?_ (Below.cast' ((HB.out.setCell (p := ⟨g8, 0, none⟩) (Nat.le_refl _) _).setCell (p := ⟨g8, 1, none⟩) (Nat.le_refl _) _) HG.out)); simp; unfold hold; (try unfold wrap64); omega)
            | (refine bodyPost_ret (v := .agg #[.int .i64 (wrap64 Q), .bool true]) (by simp [results, Try.results36, go_sem, m0, m1]; done) rfl (did_fin ?_ (Below.cast' ((HB.out.setCell (p := ⟨g8, 0, none⟩) (Nat.le_refl _) _).setCell (p := ⟨g8, 1, none⟩) (Nat.le_refl _) _) HG.out)); simp; unfold hold; (try unfold wrap64); omega)
            | (refine bodyPost_ret (v := .agg #[.int .i64 (wrap64 (Q + 1)), .bool true]) (by simp [results, Try.results36, go_sem, m0, m1]; done) rfl (did_fin ?_ (Below.cast' ((HB.out.setCell (p := ⟨g8, 0, none⟩) (Nat.le_refl _) _).setCell (p := ⟨g8, 1, none⟩) (Nat.le_refl _) _) HG.out)); simp; unfold hold; (try unfold wrap64); omega)
      | true =>
        by_cases hq : Q < 18446744073709551615
        · have kz : (Q + 1 == 0) = false := beq_eq_false_iff_ne.2 (by omega)
          go_wp2_with fail
          all_goals (have hz := hZ.out; simp at hz)
          all_goals first
            | (refine bodyPost_ret (v := .agg #[.int .i64 (-9223372036854775808), .bool false]) (by simp [results, Try.results36, go_sem, m0, m1]; done) rfl (did_fin ?_ (Below.cast' ((HB.out.setCell (p := ⟨g8, 0, none⟩) (Nat.le_refl _) _).setCell (p := ⟨g8, 1, none⟩) (Nat.le_refl _) _) HG.out)); simp; unfold hold; (try unfold wrap64); omega)
            | (refine bodyPost_ret (v := .agg #[.int .i64 9223372036854775807, .bool false]) (by simp [results, Try.results36, go_sem, m0, m1]; done) rfl (did_fin ?_ (Below.cast' ((HB.out.setCell (p := ⟨g8, 0, none⟩) (Nat.le_refl _) _).setCell (p := ⟨g8, 1, none⟩) (Nat.le_refl _) _) HG.out)); simp; unfold hold; (try unfold wrap64); omega)
            | (refine bodyPost_ret (v := .agg #[.int .i64 Q, .bool true]) (by simp [results, Try.results36, go_sem, m0, m1]; done) rfl (did_fin ?_ (Below.cast' ((HB.out.setCell (p := ⟨g8, 0, none⟩) (Nat.le_refl _) _).setCell (p := ⟨g8, 1, none⟩) (Nat.le_refl _) _) HG.out)); simp; unfold hold; (try unfold wrap64); omega)
            | (refine bodyPost_ret (v := .agg #[.int .i64 (Q + 1), .bool true]) (by simp [results, Try.results36, go_sem, m0, m1]; done) rfl (did_fin ?_ (Below.cast' ((HB.out.setCell (p := ⟨g8, 0, none⟩) (Nat.le_refl _) _).setCell (p := ⟨g8, 1, none⟩) (Nat.le_refl _) _) HG.out)); simp; unfold hold; (try unfold wrap64); omega)
            | (refine bodyPost_ret (v := .agg #[.int .i64 (wrap64 (-wrap64 Q)), .bool true]) (by simp [results, Try.results36, go_sem, m0, m1]; done) rfl (did_fin ?_ (Below.cast' ((HB.out.setCell (p := ⟨g8, 0, none⟩) (Nat.le_refl _) _).setCell (p := ⟨g8, 1, none⟩) (Nat.le_refl _) _) HG.out)); simp; unfold hold; (try unfold wrap64); omega)
            | (refine bodyPost_ret (v := .agg #[.int .i64 (wrap64 (-wrap64 (Q + 1))), .bool true]) (by simp [results, Try.results36, go_sem, m0, m1]; done) rfl (did_fin ?_ (Below.cast' ((HB.out.setCell (p := ⟨g8, 0, none⟩) (Nat.le_refl _) _).setCell (p := ⟨g8, 1, none⟩) (Nat.le_refl _) _) HG.out)); simp; unfold hold; (try unfold wrap64); omega)
            | (refine bodyPost_ret (v := .agg #[.int .i64 (wrap64 Q), .bool true]) (by simp [results, Try.results36, go_sem, m0, m1]; done) rfl (did_fin ?_ (Below.cast' ((HB.out.setCell (p := ⟨g8, 0, none⟩) (Nat.le_refl _) _).setCell (p := ⟨g8, 1, none⟩) (Nat.le_refl _) _) HG.out)); simp; unfold hold; (try unfold wrap64); omega)
            | (refine bodyPost_ret (v := .agg #[.int .i64 (wrap64 (Q + 1)), .bool true]) (by simp [results, Try.results36, go_sem, m0, m1]; done) rfl (did_fin ?_ (Below.cast' ((HB.out.setCell (p := ⟨g8, 0, none⟩) (Nat.le_refl _) _).setCell (p := ⟨g8, 1, none⟩) (Nat.le_refl _) _) HG.out)); simp; unfold hold; (try unfold wrap64); omega)
        · have hq2 : Q = 18446744073709551615 := by omega
          subst hq2
          go_wp2_with fail
          all_goals (have hz := hZ.out; simp at hz)
          all_goals first
            | (refine bodyPost_ret (v := .agg #[.int .i64 (-9223372036854775808), .bool false]) (by simp [results, Try.results36, go_sem, m0, m1]; done) rfl (did_fin ?_ (Below.cast' ((HB.out.setCell (p := ⟨g8, 0, none⟩) (Nat.le_refl _) _).setCell (p := ⟨g8, 1, none⟩) (Nat.le_refl _) _) HG.out)); simp; unfold hold; (try unfold wrap64); omega)
            | (refine bodyPost_ret (v := .agg #[.int .i64 9223372036854775807, .bool false]) (by simp [results, Try.results36, go_sem, m0, m1]; done) rfl (did_fin ?_ (Below.cast' ((HB.out.setCell (p := ⟨g8, 0, none⟩) (Nat.le_refl _) _).setCell (p := ⟨g8, 1, none⟩) (Nat.le_refl _) _) HG.out)); simp; unfold hold; (try unfold wrap64); omega)
            | (refine bodyPost_ret (v := .agg #[.int .i64 Q, .bool true]) (by simp [results, Try.results36, go_sem, m0, m1]; done) rfl (did_fin ?_ (Below.cast' ((HB.out.setCell (p := ⟨g8, 0, none⟩) (Nat.le_refl _) _).setCell (p := ⟨g8, 1, none⟩) (Nat.le_refl _) _) HG.out)); simp; unfold hold; (try unfold wrap64); omega)
            | (refine bodyPost_ret (v := .agg #[.int .i64 (Q + 1), .bool true]) (by simp [results, Try.results36, go_sem, m0, m1]; done) rfl (did_fin ?_ (Below.cast' ((HB.out.setCell (p := ⟨g8, 0, none⟩) (Nat.le_refl _) _).setCell (p := ⟨g8, 1, none⟩) (Nat.le_refl _) _) HG.out)); simp; unfold hold; (try unfold wrap64); omega)
            | (refine bodyPost_ret (v := .agg #[.int .i64 (wrap64 (-wrap64 Q)), .bool true]) (by simp [results, Try.results36, go_sem, m0, m1]; done) rfl (did_fin ?_ (Below.cast' ((HB.out.setCell (p := ⟨g8, 0, none⟩) (Nat.le_refl _) _).setCell (p := ⟨g8, 1, none⟩) (Nat.le_refl _) _) HG.out)); simp; unfold hold; (try unfold wrap64); omega)
            | (refine bodyPost_ret (v := .agg #[.int .i64 (wrap64 (-wrap64 (Q + 1))), .bool true]) (by simp [results, Try.results36, go_sem, m0, m1]; done) rfl (did_fin ?_ (Below.cast' ((HB.out.setCell (p := ⟨g8, 0, none⟩) (Nat.le_refl _) _).setCell (p := ⟨g8, 1, none⟩) (Nat.le_refl _) _) HG.out)); simp; unfold hold; (try unfold wrap64); omega)
            | (refine bodyPost_ret (v := .agg #[.int .i64 (wrap64 Q), .bool true]) (by simp [results, Try.results36, go_sem, m0, m1]; done) rfl (did_fin ?_ (Below.cast' ((HB.out.setCell (p := ⟨g8, 0, none⟩) (Nat.le_refl _) _).setCell (p := ⟨g8, 1, none⟩) (Nat.le_refl _) _) HG.out)); simp; unfold hold; (try unfold wrap64); omega)
            | (refine bodyPost_ret (v := .agg #[.int .i64 (wrap64 (Q + 1)), .bool true]) (by simp [results, Try.results36, go_sem, m0, m1]; done) rfl (did_fin ?_ (Below.cast' ((HB.out.setCell (p := ⟨g8, 0, none⟩) (Nat.le_refl _) _).setCell (p := ⟨g8, 1, none⟩) (Nat.le_refl _) _) HG.out)); simp; unfold hold; (try unfold wrap64); omega)
    | true =>
      cases over with
      | false =>
        by_cases hq : Q < 18446744073709551615
        · have kz : (Q + 1 == 0) = false := beq_eq_false_iff_ne.2 (by omega)
          go_wp2_with fail
          all_goals (have hz := hZ.out; simp at hz)
          all_goals first
            | (refine bodyPost_ret (v := .agg #[.int .i64 (-9223372036854775808), .bool false]) (by simp [results, Try.results36, go_sem, m0, m1]; done) rfl (did_fin ?_ (Below.cast' ((HB.out.setCell (p := ⟨g8, 0, none⟩) (Nat.le_refl _) _).setCell (p := ⟨g8, 1, none⟩) (Nat.le_refl _) _) HG.out)); simp; unfold hold; (try unfold wrap64); omega)
            | (refine bodyPost_ret (v := .agg #[.int .i64 9223372036854775807, .bool false]) (by simp [results, Try.results36, go_sem, m0, m1]; done) rfl (did_fin ?_ (Below.cast' ((HB.out.setCell (p := ⟨g8, 0, none⟩) (Nat.le_refl _) _).setCell (p := ⟨g8, 1, none⟩) (Nat.le_refl _) _) HG.out)); simp; unfold hold; (try unfold wrap64); omega)
            | (refine bodyPost_ret (v := .agg #[.int .i64 Q, .bool true]) (by simp [results, Try.results36, go_sem, m0, m1]; done) rfl (did_fin ?_ (Below.cast' ((HB.out.setCell (p := ⟨g8, 0, none⟩) (Nat.le_refl _) _).setCell (p := ⟨g8, 1, none⟩) (Nat.le_refl _) _) HG.out)); simp; unfold hold; (try unfold wrap64); omega)
            | (refine bodyPost_ret (v := .agg #[.int .i64 (Q + 1), .bool true]) (by simp [results, Try.results36, go_sem, m0, m1]; done) rfl (did_fin ?_ (Below.cast' ((HB.out.setCell (p := ⟨g8, 0, none⟩) (Nat.le_refl _) _).setCell (p := ⟨g8, 1, none⟩) (Nat.le_refl _) _) HG.out)); simp; unfold hold; (try unfold wrap64); omega)
            | (refine bodyPost_ret (v := .agg #[.int .i64 (wrap64 (-wrap64 Q)), .bool true]) (by simp [results, Try.results36, go_sem, m0, m1]; done) rfl (did_fin ?_ (Below.cast' ((HB.out.setCell (p := ⟨g8, 0, none⟩) (Nat.le_refl _) _).setCell (p := ⟨g8, 1, none⟩) (Nat.le_refl _) _) HG.out)); simp; unfold hold; (try unfold wrap64); omega)
            | (refine bodyPost_ret (v := .agg #[.int .i64 (wrap64 (-wrap64 (Q + 1))), .bool true]) (by simp [results, Try.results36, go_sem, m0, m1]; done) rfl (did_fin ?_ (Below.cast' ((HB.out.setCell (p := ⟨g8, 0, none⟩) (Nat.le_refl _) _).setCell (p := ⟨g8, 1, none⟩) (Nat.le_refl _) _) HG.out)); simp; unfold hold; (try unfold wrap64); omega)
            | (refine bodyPost_ret (v := .agg #[.int .i64 (wrap64 Q), .bool true]) (by simp [results, Try.results36, go_sem, m0, m1]; done) rfl (did_fin ?_ (Below.cast' ((HB.out.setCell (p := ⟨g8, 0, none⟩) (Nat.le_refl _) _).setCell (p := ⟨g8, 1, none⟩) (Nat.le_refl _) _) HG.out)); simp; unfold hold; (try unfold wrap64); omega)
            | (refine bodyPost_ret (v := .agg #[.int .i64 (wrap64 (Q + 1)), .bool true]) (by simp [results, Try.results36, go_sem, m0, m1]; done) rfl (did_fin ?_ (Below.cast' ((HB.out.setCell (p := ⟨g8, 0, none⟩) (Nat.le_refl _) _).setCell (p := ⟨g8, 1, none⟩) (Nat.le_refl _) _) HG.out)); simp; unfold hold; (try unfold wrap64); omega)
        · have hq2 : Q = 18446744073709551615 := by omega
          subst hq2
          go_wp2_with fail
          all_goals (have hz := hZ.out; simp at hz)
          all_goals first
            | (refine bodyPost_ret (v := .agg #[.int .i64 (-9223372036854775808), .bool false]) (by simp [results, Try.results36, go_sem, m0, m1]; done) rfl (did_fin ?_ (Below.cast' ((HB.out.setCell (p := ⟨g8, 0, none⟩) (Nat.le_refl _) _).setCell (p := ⟨g8, 1, none⟩) (Nat.le_refl _) _) HG.out)); simp; unfold hold; (try unfold wrap64); omega)
            | (refine bodyPost_ret (v := .agg #[.int .i64 9223372036854775807, .bool false]) (by simp [results, Try.results36, go_sem, m0, m1]; done) rfl (did_fin ?_ (Below.cast' ((HB.out.setCell (p := ⟨g8, 0, none⟩) (Nat.le_refl _) _).setCell (p := ⟨g8, 1, none⟩) (Nat.le_refl _) _) HG.out)); simp; unfold hold; (try unfold wrap64); omega)
            | (refine bodyPost_ret (v := .agg #[.int .i64 Q, .bool true]) (by simp [results, Try.results36, go_sem, m0, m1]; done) rfl (did_fin ?_ (Below.cast' ((HB.out.setCell (p := ⟨g8, 0, none⟩) (Nat.le_refl _) _).setCell (p := ⟨g8, 1, none⟩) (Nat.le_refl _) _) HG.out)); simp; unfold hold; (try unfold wrap64); omega)
            | (refine bodyPost_ret (v := .agg #[.int .i64 (Q + 1), .bool true]) (by simp [results, Try.results36, go_sem, m0, m1]; done) rfl (did_fin ?_ (Below.cast' ((HB.out.setCell (p := ⟨g8, 0, none⟩) (Nat.le_refl _) _).setCell (p := ⟨g8, 1, none⟩) (Nat.le_refl _) _) HG.out)); simp; unfold hold; (try unfold wrap64); omega)
            | (refine bodyPost_ret (v := .agg #[.int .i64 (wrap64 (-wrap64 Q)), .bool true]) (by simp [results, Try.results36, go_sem, m0, m1]; done) rfl (did_fin ?_ (Below.cast' ((HB.out.setCell (p := ⟨g8, 0, none⟩) (Nat.le_refl _) _).setCell (p := ⟨g8, 1, none⟩) (Nat.le_refl _) _) HG.out)); simp; unfold hold; (try unfold wrap64); omega)
            | (refine bodyPost_ret (v := .agg #[.int .i64 (wrap64 (-wrap64 (Q + 1))), .bool true]) (by simp [results, Try.results36, go_sem, m0, m1]; done) rfl (did_fin ?_ (Below.cast' ((HB.out.setCell (p := ⟨g8, 0, none⟩) (Nat.le_refl _) _).setCell (p := ⟨g8, 1, none⟩) (Nat.le_refl _) _) HG.out)); simp; unfold hold; (try unfold wrap64); omega)
            | (refine bodyPost_ret (v := .agg #[.int .i64 (wrap64 Q), .bool true]) (by simp [results, Try.results36, go_sem, m0, m1]; done) rfl (did_fin ?_ (Below.cast' ((HB.out.setCell (p := ⟨g8, 0, none⟩) (Nat.le_refl _) _).setCell (p := ⟨g8, 1, none⟩) (Nat.le_refl _) _) HG.out)); simp; unfold hold; (try unfold wrap64); omega)
            | (refine bodyPost_ret (v := .agg #[.int .i64 (wrap64 (Q + 1)), .bool true]) (by simp [results, Try.results36, go_sem, m0, m1]; done) rfl (did_fin ?_ (Below.cast' ((HB.out.setCell (p := ⟨g8, 0, none⟩) (Nat.le_refl _) _).setCell (p := ⟨g8, 1, none⟩) (Nat.le_refl _) _) HG.out)); simp; unfold hold; (try unfold wrap64); omega)
      | true =>
        by_cases hq : Q < 18446744073709551615
        · have kz : (Q + 1 == 0) = false := beq_eq_false_iff_ne.2 (by omega)
          go_wp2_with fail
          all_goals (have hz := hZ.out; simp at hz)
          all_goals first
            | (refine bodyPost_ret (v := .agg #[.int .i64 (-9223372036854775808), .bool false]) (by simp [results, Try.results36, go_sem, m0, m1]; done) rfl (did_fin ?_ (Below.cast' ((HB.out.setCell (p := ⟨g8, 0, none⟩) (Nat.le_refl _) _).setCell (p := ⟨g8, 1, none⟩) (Nat.le_refl _) _) HG.out)); simp; unfold hold; (try unfold wrap64); omega)
            | (refine bodyPost_ret (v := .agg #[.int .i64 9223372036854775807, .bool false]) (by simp [results, Try.results36, go_sem, m0, m1]; done) rfl (did_fin ?_ (Below.cast' ((HB.out.setCell (p := ⟨g8, 0, none⟩) (Nat.le_refl _) _).setCell (p := ⟨g8, 1, none⟩) (Nat.le_refl _) _) HG.out)); simp; unfold hold; (try unfold wrap64); omega)
            | (refine bodyPost_ret (v := .agg #[.int .i64 Q, .bool true]) (by simp [results, Try.results36, go_sem, m0, m1]; done) rfl (did_fin ?_ (Below.cast' ((HB.out.setCell (p := ⟨g8, 0, none⟩) (Nat.le_refl _) _).setCell (p := ⟨g8, 1, none⟩) (Nat.le_refl _) _) HG.out)); simp; unfold hold; (try unfold wrap64); omega)
            | (refine bodyPost_ret (v := .agg #[.int .i64 (Q + 1), .bool true]) (by simp [results, Try.results36, go_sem, m0, m1]; done) rfl (did_fin ?_ (Below.cast' ((HB.out.setCell (p := ⟨g8, 0, none⟩) (Nat.le_refl _) _).setCell (p := ⟨g8, 1, none⟩) (Nat.le_refl _) _) HG.out)); simp; unfold hold; (try unfold wrap64); omega)
            | (refine bodyPost_ret (v := .agg #[.int .i64 (wrap64 (-wrap64 Q)), .bool true]) (by simp [results, Try.results36, go_sem, m0, m1]; done) rfl (did_fin ?_ (Below.cast' ((HB.out.setCell (p := ⟨g8, 0, none⟩) (Nat.le_refl _) _).setCell (p := ⟨g8, 1, none⟩) (Nat.le_refl _) _) HG.out)); simp; unfold hold; (try unfold wrap64); omega)
            | (refine bodyPost_ret (v := .agg #[.int .i64 (wrap64 (-wrap64 (Q + 1))), .bool true]) (by simp [results, Try.results36, go_sem, m0, m1]; done) rfl (did_fin ?_ (Below.cast' ((HB.out.setCell (p := ⟨g8, 0, none⟩) (Nat.le_refl _) _).setCell (p := ⟨g8, 1, none⟩) (Nat.le_refl _) _) HG.out)); simp; unfold hold; (try unfold wrap64); omega)
            | (refine bodyPost_ret (v := .agg #[.int .i64 (wrap64 Q), .bool true]) (by simp [results, Try.results36, go_sem, m0, m1]; done) rfl (did_fin ?_ (Below.cast' ((HB.out.setCell (p := ⟨g8, 0, none⟩) (Nat.le_refl _) _).setCell (p := ⟨g8, 1, none⟩) (Nat.le_refl _) _) HG.out)); simp; unfold hold; (try unfold wrap64); omega)
            | (refine bodyPost_ret (v := .agg #[.int .i64 (wrap64 (Q + 1)), .bool true]) (by simp [results, Try.results36, go_sem, m0, m1]; done) rfl (did_fin ?_ (Below.cast' ((HB.out.setCell (p := ⟨g8, 0, none⟩) (Nat.le_refl _) _).setCell (p := ⟨g8, 1, none⟩) (Nat.le_refl _) _) HG.out)); simp; unfold hold; (try unfold wrap64); omega)
        · have hq2 : Q = 18446744073709551615 := by omega
          subst hq2
          go_wp2_with fail
          all_goals (have hz := hZ.out; simp at hz)
          all_goals first
            | (refine bodyPost_ret (v := .agg #[.int .i64 (-9223372036854775808), .bool false]) (by simp [results, Try.results36, go_sem, m0, m1]; done) rfl (did_fin ?_ (Below.cast' ((HB.out.setCell (p := ⟨g8, 0, none⟩) (Nat.le_refl _) _).setCell (p := ⟨g8, 1, none⟩) (Nat.le_refl _) _) HG.out)); simp; unfold hold; (try unfold wrap64); omega)
            | (refine bodyPost_ret (v := .agg #[.int .i64 9223372036854775807, .bool false]) (by simp [results, Try.results36, go_sem, m0, m1]; done) rfl (did_fin ?_ (Below.cast' ((HB.out.setCell (p := ⟨g8, 0, none⟩) (Nat.le_refl _) _).setCell (p := ⟨g8, 1, none⟩) (Nat.le_refl _) _) HG.out)); simp; unfold hold; (try unfold wrap64); omega)
            | (refine bodyPost_ret (v := .agg #[.int .i64 Q, .bool true]) (by simp [results, Try.results36, go_sem, m0, m1]; done) rfl (did_fin ?_ (Below.cast' ((HB.out.setCell (p := ⟨g8, 0, none⟩) (Nat.le_refl _) _).setCell (p := ⟨g8, 1, none⟩) (Nat.le_refl _) _) HG.out)); simp; unfold hold; (try unfold wrap64); omega)
            | (refine bodyPost_ret (v := .agg #[.int .i64 (Q + 1), .bool true]) (by simp [results, Try.results36, go_sem, m0, m1]; done) rfl (did_fin ?_ (Below.cast' ((HB.out.setCell (p := ⟨g8, 0, none⟩) (Nat.le_refl _) _).setCell (p := ⟨g8, 1, none⟩) (Nat.le_refl _) _) HG.out)); simp; unfold hold; (try unfold wrap64); omega)
            | (refine bodyPost_ret (v := .agg #[.int .i64 (wrap64 (-wrap64 Q)), .bool true]) (by simp [results, Try.results36, go_sem, m0, m1]; done) rfl (did_fin ?_ (Below.cast' ((HB.out.setCell (p := ⟨g8, 0, none⟩) (Nat.le_refl _) _).setCell (p := ⟨g8, 1, none⟩) (Nat.le_refl _) _) HG.out)); simp; unfold hold; (try unfold wrap64); omega)
            | (refine bodyPost_ret (v := .agg #[.int .i64 (wrap64 (-wrap64 (Q + 1))), .bool true]) (by simp [results, Try.results36, go_sem, m0, m1]; done) rfl (did_fin ?_ (Below.cast' ((HB.out.setCell (p := ⟨g8, 0, none⟩) (Nat.le_refl _) _).setCell (p := ⟨g8, 1, none⟩) (Nat.le_refl _) _) HG.out)); simp; unfold hold; (try unfold wrap64); omega)
            | (refine bodyPost_ret (v := .agg #[.int .i64 (wrap64 Q), .bool true]) (by simp [results, Try.results36, go_sem, m0, m1]; done) rfl (did_fin ?_ (Below.cast' ((HB.out.setCell (p := ⟨g8, 0, none⟩) (Nat.le_refl _) _).setCell (p := ⟨g8, 1, none⟩) (Nat.le_refl _) _) HG.out)); simp; unfold hold; (try unfold wrap64); omega)
            | (refine bodyPost_ret (v := .agg #[.int .i64 (wrap64 (Q + 1)), .bool true]) (by simp [results, Try.results36, go_sem, m0, m1]; done) rfl (did_fin ?_ (Below.cast' ((HB.out.setCell (p := ⟨g8, 0, none⟩) (Nat.le_refl _) _).setCell (p := ⟨g8, 1, none⟩) (Nat.le_refl _) _) HG.out)); simp; unfold hold; (try unfold wrap64); omega)
  · go_wp2_with fail
    rw [← hg8, ← hgp]
    clear hg8 hgp
    generalize w3.alloc (.cells #[.int .u64 Q, .bool over, .int .u64 L] 83) = w4 at *
    go_quiet (first | (go_at_call 45; refine Calls.quiet_of_same (H3.out _)) | fail)
    have p0 : (w4.drewN nq).cell? ⟨gp, 0, none⟩ = some (.int .u64 Q) := p0
    have p1 : (w4.drewN nq).cell? ⟨gp, 1, none⟩ = some (.bool over) := p1
    have f0 : (w4.drewN nq).frozen? ⟨g8, 0, none⟩ = false := f0
    have f1 : (w4.drewN nq).frozen? ⟨g8, 1, none⟩ = false := f1
    have m0 : (w4.drewN nq).cell? ⟨g8, 0, none⟩ = some (.int .i64 0) := m0
    have m1 : (w4.drewN nq).cell? ⟨g8, 1, none⟩ = some (.bool false) := m1
    have HB : Aside0 (Below g8 w (w4.drewN nq)) := ⟨HB.out.trans ((pw_below_drewN (Below.refl _ _) nq).mono (by rw [HG.out]; exact HB.out.size))⟩
    generalize w4.drewN nq = w4 at *
    go_wp2_with fail
    go_quiet (fail)
    have p0 : (w4.drewN nq).cell? ⟨gp, 0, none⟩ = some (.int .u64 Q) := p0
    have p1 : (w4.drewN nq).cell? ⟨gp, 1, none⟩ = some (.bool over) := p1
    have f0 : (w4.drewN nq).frozen? ⟨g8, 0, none⟩ = false := f0
    have f1 : (w4.drewN nq).frozen? ⟨g8, 1, none⟩ = false := f1
    have m0 : (w4.drewN nq).cell? ⟨g8, 0, none⟩ = some (.int .i64 0) := m0
    have m1 : (w4.drewN nq).cell? ⟨g8, 1, none⟩ = some (.bool false) := m1
    have HB : Aside0 (Below g8 w (w4.drewN nq)) := ⟨HB.out.trans ((pw_below_drewN (Below.refl _ _) nq).mono (by rw [HG.out]; exact HB.out.size))⟩
    generalize w4.drewN nq = w4 at *
    cases U with
    | false =>
      cases over with
      | false =>
        by_cases hq : Q < 18446744073709551615
        · have kz : (Q + 1 == 0) = false := beq_eq_false_iff_ne.2 (by omega)
          go_wp2_with fail
          all_goals (have hz := hZ.out; simp at hz)
          all_goals first
            | (refine bodyPost_ret (v := .agg #[.int .i64 (-9223372036854775808), .bool false]) (by simp [results, Try.results36, go_sem, m0, m1]; done) rfl (did_fin ?_ (Below.cast' ((HB.out.setCell (p := ⟨g8, 0, none⟩) (Nat.le_refl _) _).setCell (p := ⟨g8, 1, none⟩) (Nat.le_refl _) _) HG.out)); simp; unfold hold; (try unfold wrap64); omega)
            | (refine bodyPost_ret (v := .agg #[.int .i64 9223372036854775807, .bool false]) (by simp [results, Try.results36, go_sem, m0, m1]; done) rfl (did_fin ?_ (Below.cast' ((HB.out.setCell (p := ⟨g8, 0, none⟩) (Nat.le_refl _) _).setCell (p := ⟨g8, 1, none⟩) (Nat.le_refl _) _) HG.out)); simp; unfold hold; (try unfold wrap64); omega)
            | (refine bodyPost_ret (v := .agg #[.int .i64 Q, .bool true]) (by simp [results, Try.results36, go_sem, m0, m1]; done) rfl (did_fin ?_ (Below.cast' ((HB.out.setCell (p := ⟨g8, 0, none⟩) (Nat.le_refl _) _).setCell (p := ⟨g8, 1, none⟩) (Nat.le_refl _) _) HG.out)); simp; unfold hold; (try unfold wrap64); omega)
            | (refine bodyPost_ret (v := .agg #[.int .i64 (Q + 1), .bool true]) (by simp [results, Try.results36, go_sem, m0, m1]; done) rfl (did_fin ?_ (Below.cast' ((HB.out.setCell (p := ⟨g8, 0, none⟩) (Nat.le_refl _) _).setCell (p := ⟨g8, 1, none⟩) (Nat.le_refl _) _) HG.out)); simp; unfold hold; (try unfold wrap64); omega)
            | (refine bodyPost_ret (v := .agg #[.int .i64 (wrap64 (-wrap64 Q)), .bool true]) (by simp [results, Try.results36, go_sem, m0, m1]; done) rfl (did_fin ?_ (Below.cast' ((HB.out.setCell (p := ⟨g8, 0, none⟩) (Nat.le_refl _) _).setCell (p := ⟨g8, 1, none⟩) (Nat.le_refl _) _) HG.out)); simp; unfold hold; (try unfold wrap64); omega)
            | (refine bodyPost_ret (v := .agg #[.int .i64 (wrap64 (-wrap64 (Q + 1))), .bool true]) (by simp [results, Try.results36, go_sem, m0, m1]; done) rfl (did_fin ?_ (Below.cast' ((HB.out.setCell (p := ⟨g8, 0, none⟩) (Nat.le_refl _) _).setCell (p := ⟨g8, 1, none⟩) (Nat.le_refl _) _) HG.out)); simp; unfold hold; (try unfold wrap64); omega)
            | (refine bodyPost_ret (v := .agg #[.int .i64 (wrap64 Q), .bool true]) (by simp [results, Try.results36, go_sem, m0, m1]; done) rfl (did_fin ?_ (Below.cast' ((HB.out.setCell (p := ⟨g8, 0, none⟩) (Nat.le_refl _) _).setCell (p := ⟨g8, 1, none⟩) (Nat.le_refl _) _) HG.out)); simp; unfold hold; (try unfold wrap64); omega)
            | (refine bodyPost_ret (v := .agg #[.int .i64 (wrap64 (Q + 1)), .bool true]) (by simp [results, Try.results36, go_sem, m0, m1]; done) rfl (did_fin ?_ (Below.cast' ((HB.out.setCell (p := ⟨g8, 0, none⟩) (Nat.le_refl _) _).setCell (p := ⟨g8, 1, none⟩) (Nat.le_refl _) _) HG.out)); simp; unfold hold; (try unfold wrap64); omega)
        · have hq2 : Q = 18446744073709551615 := by omega
          subst hq2
          go_wp2_with fail
          all_goals (have hz := hZ.out; simp at hz)
          all_goals first
            | (refine bodyPost_ret (v := .agg #[.int .i64 (-9223372036854775808), .bool false]) (by simp [results, Try.results36, go_sem, m0, m1]; done) rfl (did_fin ?_ (Below.cast' ((HB.out.setCell (p := ⟨g8, 0, none⟩) (Nat.le_refl _) _).setCell (p := ⟨g8, 1, none⟩) (Nat.le_refl _) _) HG.out)); simp; unfold hold; (try unfold wrap64); omega)
            | (refine bodyPost_ret (v := .agg #[.int .i64 9223372036854775807, .bool false]) (by simp [results, Try.results36, go_sem, m0, m1]; done) rfl (did_fin ?_ (Below.cast' ((HB.out.setCell (p := ⟨g8, 0, none⟩) (Nat.le_refl _) _).setCell (p := ⟨g8, 1, none⟩) (Nat.le_refl _) _) HG.out)); simp; unfold hold; (try unfold wrap64); omega)
            | (refine bodyPost_ret (v := .agg #[.int .i64 Q, .bool true]) (by simp [results, Try.results36, go_sem, m0, m1]; done) rfl (did_fin ?_ (Below.cast' ((HB.out.setCell (p := ⟨g8, 0, none⟩) (Nat.le_refl _) _).setCell (p := ⟨g8, 1, none⟩) (Nat.le_refl _) _) HG.out)); simp; unfold hold; (try unfold wrap64); omega)
            | (refine bodyPost_ret (v := .agg #[.int .i64 (Q + 1), .bool true]) (by simp [results, Try.results36, go_sem, m0, m1]; done) rfl (did_fin ?_ (Below.cast' ((HB.out.setCell (p := ⟨g8, 0, none⟩) (Nat.le_refl _) _).setCell (p := ⟨g8, 1, none⟩) (Nat.le_refl _) _) HG.out)); simp; unfold hold; (try unfold wrap64); omega)
            | (refine bodyPost_ret (v := .agg #[.int .i64 (wrap64 (-wrap64 Q)), .bool true]) (by simp [results, Try.results36, go_sem, m0, m1]; done) rfl (did_fin ?_ (Below.cast' ((HB.out.setCell (p := ⟨g8, 0, none⟩) (Nat.le_refl _) _).setCell (p := ⟨g8, 1, none⟩) (Nat.le_refl _) _) HG.out)); simp; unfold hold; (try unfold wrap64); omega)
            | (refine bodyPost_ret (v := .agg #[.int .i64 (wrap64 (-wrap64 (Q + 1))), .bool true]) (by simp [results, Try.results36, go_sem, m0, m1]; done) rfl (did_fin ?_ (Below.cast' ((HB.out.setCell (p := ⟨g8, 0, none⟩) (Nat.le_refl _) _).setCell (p := ⟨g8, 1, none⟩) (Nat.le_refl _) _) HG.out)); simp; unfold hold; (try unfold wrap64); omega)
            | (refine bodyPost_ret (v := .agg #[.int .i64 (wrap64 Q), .bool true]) (by simp [results, Try.results36, go_sem, m0, m1]; done) rfl (did_fin ?_ (Below.cast' ((HB.out.setCell (p := ⟨g8, 0, none⟩) (Nat.le_refl _) _).setCell (p := ⟨g8, 1, none⟩) (Nat.le_refl _) _) HG.out)); simp; unfold hold; (try unfold wrap64); omega)
            | (refine bodyPost_ret (v := .agg #[.int .i64 (wrap64 (Q + 1)), .bool true]) (by simp [results, Try.results36, go_sem, m0, m1]; done) rfl (did_fin ?_ (Below.cast' ((HB.out.setCell (p := ⟨g8, 0, none⟩) (Nat.le_refl _) _).setCell (p := ⟨g8, 1, none⟩) (Nat.le_refl _) _) HG.out)); simp; unfold hold; (try unfold wrap64); omega)
      | true =>
        by_cases hq : Q < 18446744073709551615
        · have kz : (Q + 1 == 0) = false := beq_eq_false_iff_ne.2 (by omega)
          go_wp2_with fail
          all_goals (have hz := hZ.out; simp at hz)
          all_goals first
            | (refine bodyPost_ret (v := .agg #[.int .i64 (-9223372036854775808), .bool false]) (by simp [results, Try.results36, go_sem, m0, m1]; done) rfl (did_fin ?_ (Below.cast' ((HB.out.setCell (p := ⟨g8, 0, none⟩) (Nat.le_refl _) _).setCell (p := ⟨g8, 1, none⟩) (Nat.le_refl _) _) HG.out)); simp; unfold hold; (try unfold wrap64); omega)
            | (refine bodyPost_ret (v := .agg #[.int .i64 9223372036854775807, .bool false]) (by simp [results, Try.results36, go_sem, m0, m1]; done) rfl (did_fin ?_ (Below.cast' ((HB.out.setCell (p := ⟨g8, 0, none⟩) (Nat.le_refl _) _).setCell (p := ⟨g8, 1, none⟩) (Nat.le_refl _) _) HG.out)); simp; unfold hold; (try unfold wrap64); omega)
            | (refine bodyPost_ret (v := .agg #[.int .i64 Q, .bool true]) (by simp [results, Try.results36, go_sem, m0, m1]; done) rfl (did_fin ?_ (Below.cast' ((HB.out.setCell (p := ⟨g8, 0, none⟩) (Nat.le_refl _) _).setCell (p := ⟨g8, 1, none⟩) (Nat.le_refl _) _) HG.out)); simp; unfold hold; (try unfold wrap64); omega)
            | (refine bodyPost_ret (v := .agg #[.int .i64 (Q + 1), .bool true]) (by simp [results, Try.results36, go_sem, m0, m1]; done) rfl (did_fin ?_ (Below.cast' ((HB.out.setCell (p := ⟨g8, 0, none⟩) (Nat.le_refl _) _).setCell (p := ⟨g8, 1, none⟩) (Nat.le_refl _) _) HG.out)); simp; unfold hold; (try unfold wrap64); omega)
            | (refine bodyPost_ret (v := .agg #[.int .i64 (wrap64 (-wrap64 Q)), .bool true]) (by simp [results, Try.results36, go_sem, m0, m1]; done) rfl (did_fin ?_ (Below.cast' ((HB.out.setCell (p := ⟨g8, 0, none⟩) (Nat.le_refl _) _).setCell (p := ⟨g8, 1, none⟩) (Nat.le_refl _) _) HG.out)); simp; unfold hold; (try unfold wrap64); omega)
            | (refine bodyPost_ret (v := .agg #[.int .i64 (wrap64 (-wrap64 (Q + 1))), .bool true]) (by simp [results, Try.results36, go_sem, m0, m1]; done) rfl (did_fin ?_ (Below.cast' ((HB.out.setCell (p := ⟨g8, 0, none⟩) (Nat.le_refl _) _).setCell (p := ⟨g8, 1, none⟩) (Nat.le_refl _) _) HG.out)); simp; unfold hold; (try unfold wrap64); omega)
            | (refine bodyPost_ret (v := .agg #[.int .i64 (wrap64 Q), .bool true]) (by simp [results, Try.results36, go_sem, m0, m1]; done) rfl (did_fin ?_ (Below.cast' ((HB.out.setCell (p := ⟨g8, 0, none⟩) (Nat.le_refl _) _).setCell (p := ⟨g8, 1, none⟩) (Nat.le_refl _) _) HG.out)); simp; unfold hold; (try unfold wrap64); omega)
            | (refine bodyPost_ret (v := .agg #[.int .i64 (wrap64 (Q + 1)), .bool true]) (by simp [results, Try.results36, go_sem, m0, m1]; done) rfl (did_fin ?_ (Below.cast' ((HB.out.setCell (p := ⟨g8, 0, none⟩) (Nat.le_refl _) _).setCell (p := ⟨g8, 1, none⟩) (Nat.le_refl _) _) HG.out)); simp; unfold hold; (try unfold wrap64); omega)
        · have hq2 : Q = 18446744073709551615 := by omega
          subst hq2
          go_wp2_with fail
          all_goals (have hz := hZ.out; simp at hz)
          all_goals first
            | (refine bodyPost_ret (v := .agg #[.int .i64 (-9223372036854775808), .bool false]) (by simp [results, Try.results36, go_sem, m0, m1]; done) rfl (did_fin ?_ (Below.cast' ((HB.out.setCell (p := ⟨g8, 0, none⟩) (Nat.le_refl _) _).setCell (p := ⟨g8, 1, none⟩) (Nat.le_refl _) _) HG.out)); simp; unfold hold; (try unfold wrap64); omega)
            | (refine bodyPost_ret (v := .agg #[.int .i64 9223372036854775807, .bool false]) (by simp [results, Try.results36, go_sem, m0, m1]; done) rfl (did_fin ?_ (Below.cast' ((HB.out.setCell (p := ⟨g8, 0, none⟩) (Nat.le_refl _) _).setCell (p := ⟨g8, 1, none⟩) (Nat.le_refl _) _) HG.out)); simp; unfold hold; (try unfold wrap64); omega)
            | (refine bodyPost_ret (v := .agg #[.int .i64 Q, .bool true]) (by simp [results, Try.results36, go_sem, m0, m1]; done) rfl (did_fin ?_ (Below.cast' ((HB.out.setCell (p := ⟨g8, 0, none⟩) (Nat.le_refl _) _).setCell (p := ⟨g8, 1, none⟩) (Nat.le_refl _) _) HG.out)); simp; unfold hold; (try unfold wrap64); omega)
            | (refine bodyPost_ret (v := .agg #[.int .i64 (Q + 1), .bool true]) (by simp [results, Try.results36, go_sem, m0, m1]; done) rfl (did_fin ?_ (Below.cast' ((HB.out.setCell (p := ⟨g8, 0, none⟩) (Nat.le_refl _) _).setCell (p := ⟨g8, 1, none⟩) (Nat.le_refl _) _) HG.out)); simp; unfold hold; (try unfold wrap64); omega)
            | (refine bodyPost_ret (v := .agg #[.int .i64 (wrap64 (-wrap64 Q)), .bool true]) (by simp [results, Try.results36, go_sem, m0, m1]; done) rfl (did_fin ?_ (Below.cast' ((HB.out.setCell (p := ⟨g8, 0, none⟩) (Nat.le_refl _) _).setCell (p := ⟨g8, 1, none⟩) (Nat.le_refl _) _) HG.out)); simp; unfold hold; (try unfold wrap64); omega)
            | (refine bodyPost_ret (v := .agg #[.int .i64 (wrap64 (-wrap64 (Q + 1))), .bool true]) (by simp [results, Try.results36, go_sem, m0, m1]; done) rfl (did_fin ?_ (Below.cast' ((HB.out.setCell (p := ⟨g8, 0, none⟩) (Nat.le_refl _) _).setCell (p := ⟨g8, 1, none⟩) (Nat.le_refl _) _) HG.out)); simp; unfold hold; (try unfold wrap64); omega)
            | (refine bodyPost_ret (v := .agg #[.int .i64 (wrap64 Q), .bool true]) (by simp [results, Try.results36, go_sem, m0, m1]; done) rfl (did_fin ?_ (Below.cast' ((HB.out.setCell (p := ⟨g8, 0, none⟩) (Nat.le_refl _) _).setCell (p := ⟨g8, 1, none⟩) (Nat.le_refl _) _) HG.out)); simp; unfold hold; (try unfold wrap64); omega)
            | (refine bodyPost_ret (v := .agg #[.int .i64 (wrap64 (Q + 1)), .bool true]) (by simp [results, Try.results36, go_sem, m0, m1]; done) rfl (did_fin ?_ (Below.cast' ((HB.out.setCell (p := ⟨g8, 0, none⟩) (Nat.le_refl _) _).setCell (p := ⟨g8, 1, none⟩) (Nat.le_refl _) _) HG.out)); simp; unfold hold; (try unfold wrap64); omega)
    | true =>
      cases over with
      | false =>
        by_cases hq : Q < 18446744073709551615
        · have kz : (Q + 1 == 0) = false := beq_eq_false_iff_ne.2 (by omega)
          go_wp2_with fail
          all_goals (have hz := hZ.out; simp at hz)
          all_goals first
            | (refine bodyPost_ret (v := .agg #[.int .i64 (-9223372036854775808), .bool false]) (by simp [results, Try.results36, go_sem, m0, m1]; done) rfl (did_fin ?_ (Below.cast' ((HB.out.setCell (p := ⟨g8, 0, none⟩) (Nat.le_refl _) _).setCell (p := ⟨g8, 1, none⟩) (Nat.le_refl _) _) HG.out)); simp; unfold hold; (try unfold wrap64); omega)
            | (refine bodyPost_ret (v := .agg #[.int .i64 9223372036854775807, .bool false]) (by simp [results, Try.results36, go_sem, m0, m1]; done) rfl (did_fin ?_ (Below.cast' ((HB.out.setCell (p := ⟨g8, 0, none⟩) (Nat.le_refl _) _).setCell (p := ⟨g8, 1, none⟩) (Nat.le_refl _) _) HG.out)); simp; unfold hold; (try unfold wrap64); omega)
            | (refine bodyPost_ret (v := .agg #[.int .i64 Q, .bool true]) (by simp [results, Try.results36, go_sem, m0, m1]; done) rfl (did_fin ?_ (Below.cast' ((HB.out.setCell (p := ⟨g8, 0, none⟩) (Nat.le_refl _) _).setCell (p := ⟨g8, 1, none⟩) (Nat.le_refl _) _) HG.out)); simp; unfold hold; (try unfold wrap64); omega)
            | (refine bodyPost_ret (v := .agg #[.int .i64 (Q + 1), .bool true]) (by simp [results, Try.results36, go_sem, m0, m1]; done) rfl (did_fin ?_ (Below.cast' ((HB.out.setCell (p := ⟨g8, 0, none⟩) (Nat.le_refl _) _).setCell (p := ⟨g8, 1, none⟩) (Nat.le_refl _) _) HG.out)); simp; unfold hold; (try unfold wrap64); omega)
            | (refine bodyPost_ret (v := .agg #[.int .i64 (wrap64 (-wrap64 Q)), .bool true]) (by simp [results, Try.results36, go_sem, m0, m1]; done) rfl (did_fin ?_ (Below.cast' ((HB.out.setCell (p := ⟨g8, 0, none⟩) (Nat.le_refl _) _).setCell (p := ⟨g8, 1, none⟩) (Nat.le_refl _) _) HG.out)); simp; unfold hold; (try unfold wrap64); omega)
            | (refine bodyPost_ret (v := .agg #[.int .i64 (wrap64 (-wrap64 (Q + 1))), .bool true]) (by simp [results, Try.results36, go_sem, m0, m1]; done) rfl (did_fin ?_ (Below.cast' ((HB.out.setCell (p := ⟨g8, 0, none⟩) (Nat.le_refl _) _).setCell (p := ⟨g8, 1, none⟩) (Nat.le_refl _) _) HG.out)); simp; unfold hold; (try unfold wrap64); omega)
            | (refine bodyPost_ret (v := .agg #[.int .i64 (wrap64 Q), .bool true]) (by simp [results, Try.results36, go_sem, m0, m1]; done) rfl (did_fin ?_ (Below.cast' ((HB.out.setCell (p := ⟨g8, 0, none⟩) (Nat.le_refl _) _).setCell (p := ⟨g8, 1, none⟩) (Nat.le_refl _) _) HG.out)); simp; unfold hold; (try unfold wrap64); omega)
            | (refine bodyPost_ret (v := .agg #[.int .i64 (wrap64 (Q + 1)), .bool true]) (by simp [results, Try.results36, go_sem, m0, m1]; done) rfl (did_fin ?_ (Below.cast' ((HB.out.setCell (p := ⟨g8, 0, none⟩) (Nat.le_refl _) _).setCell (p := ⟨g8, 1, none⟩) (Nat.le_refl _) _) HG.out)); simp; unfold hold; (try unfold wrap64); omega)
        · have hq2 : Q = 18446744073709551615 := by omega
          subst hq2
          go_wp2_with fail
          all_goals (have hz := hZ.out; simp at hz)
          all_goals first
            | (refine bodyPost_ret (v := .agg #[.int .i64 (-9223372036854775808), .bool false]) (by simp [results, Try.results36, go_sem, m0, m1]; done) rfl (did_fin ?_ (Below.cast' ((HB.out.setCell (p := ⟨g8, 0, none⟩) (Nat.le_refl _) _).setCell (p := ⟨g8, 1, none⟩) (Nat.le_refl _) _) HG.out)); simp; unfold hold; (try unfold wrap64); omega)
            | (refine bodyPost_ret (v := .agg #[.int .i64 9223372036854775807, .bool false]) (by simp [results, Try.results36, go_sem, m0, m1]; done) rfl (did_fin ?_ (Below.cast' ((HB.out.setCell (p := ⟨g8, 0, none⟩) (Nat.le_refl _) _).setCell (p := ⟨g8, 1, none⟩) (Nat.le_refl _) _) HG.out)); simp; unfold hold; (try unfold wrap64); omega)
            | (refine bodyPost_ret (v := .agg #[.int .i64 Q, .bool true]) (by simp [results, Try.results36, go_sem, m0, m1]; done) rfl (did_fin ?_ (Below.cast' ((HB.out.setCell (p := ⟨g8, 0, none⟩) (Nat.le_refl _) _).setCell (p := ⟨g8, 1, none⟩) (Nat.le_refl _) _) HG.out)); simp; unfold hold; (try unfold wrap64); omega)
            | (refine bodyPost_ret (v := .agg #[.int .i64 (Q + 1), .bool true]) (by simp [results, Try.results36, go_sem, m0, m1]; done) rfl (did_fin ?_ (Below.cast' ((HB.out.setCell (p := ⟨g8, 0, none⟩) (Nat.le_refl _) _).setCell (p := ⟨g8, 1, none⟩) (Nat.le_refl _) _) HG.out)); simp; unfold hold; (try unfold wrap64); omega)
            | (refine bodyPost_ret (v := .agg #[.int .i64 (wrap64 (-wrap64 Q)), .bool true]) (by simp [results, Try.results36, go_sem, m0, m1]; done) rfl (did_fin ?_ (Below.cast' ((HB.out.setCell (p := ⟨g8, 0, none⟩) (Nat.le_refl _) _).setCell (p := ⟨g8, 1, none⟩) (Nat.le_refl _) _) HG.out)); simp; unfold hold; (try unfold wrap64); omega)
            | (refine bodyPost_ret (v := .agg #[.int .i64 (wrap64 (-wrap64 (Q + 1))), .bool true]) (by simp [results, Try.results36, go_sem, m0, m1]; done) rfl (did_fin ?_ (Below.cast' ((HB.out.setCell (p := ⟨g8, 0, none⟩) (Nat.le_refl _) _).setCell (p := ⟨g8, 1, none⟩) (Nat.le_refl _) _) HG.out)); simp; unfold hold; (try unfold wrap64); omega)
            | (refine bodyPost_ret (v := .agg #[.int .i64 (wrap64 Q), .bool true]) (by simp [results, Try.results36, go_sem, m0, m1]; done) rfl (did_fin ?_ (Below.cast' ((HB.out.setCell (p := ⟨g8, 0, none⟩) (Nat.le_refl _) _).setCell (p := ⟨g8, 1, none⟩) (Nat.le_refl _) _) HG.out)); simp; unfold hold; (try unfold wrap64); omega)
            | (refine bodyPost_ret (v := .agg #[.int .i64 (wrap64 (Q + 1)), .bool true]) (by simp [results, Try.results36, go_sem, m0, m1]; done) rfl (did_fin ?_ (Below.cast' ((HB.out.setCell (p := ⟨g8, 0, none⟩) (Nat.le_refl _) _).setCell (p := ⟨g8, 1, none⟩) (Nat.le_refl _) _) HG.out)); simp; unfold hold; (try unfold wrap64); omega)
      | true =>
        by_cases hq : Q < 18446744073709551615
        · have kz : (Q + 1 == 0) = false := beq_eq_false_iff_ne.2 (by omega)
          go_wp2_with fail
          all_goals (have hz := hZ.out; simp at hz)
          all_goals first
            | (refine bodyPost_ret (v := .agg #[.int .i64 (-9223372036854775808), .bool false]) (by simp [results, Try.results36, go_sem, m0, m1]; done) rfl (did_fin ?_ (Below.cast' ((HB.out.setCell (p := ⟨g8, 0, none⟩) (Nat.le_refl _) _).setCell (p := ⟨g8, 1, none⟩) (Nat.le_refl _) _) HG.out)); simp; unfold hold; (try unfold wrap64); omega)
            | (refine bodyPost_ret (v := .agg #[.int .i64 9223372036854775807, .bool false]) (by simp [results, Try.results36, go_sem, m0, m1]; done) rfl (did_fin ?_ (Below.cast' ((HB.out.setCell (p := ⟨g8, 0, none⟩) (Nat.le_refl _) _).setCell (p := ⟨g8, 1, none⟩) (Nat.le_refl _) _) HG.out)); simp; unfold hold; (try unfold wrap64); omega)
            | (refine bodyPost_ret (v := .agg #[.int .i64 Q, .bool true]) (by simp [results, Try.results36, go_sem, m0, m1]; done) rfl (did_fin ?_ (Below.cast' ((HB.out.setCell (p := ⟨g8, 0, none⟩) (Nat.le_refl _) _).setCell (p := ⟨g8, 1, none⟩) (Nat.le_refl _) _) HG.out)); simp; unfold hold; (try unfold wrap64); omega)
            | (refine bodyPost_ret (v := .agg #[.int .i64 (Q + 1), .bool true]) (by simp [results, Try.results36, go_sem, m0, m1]; done) rfl (did_fin ?_ (Below.cast' ((HB.out.setCell (p := ⟨g8, 0, none⟩) (Nat.le_refl _) _).setCell (p := ⟨g8, 1, none⟩) (Nat.le_refl _) _) HG.out)); simp; unfold hold; (try unfold wrap64); omega)
            | (refine bodyPost_ret (v := .agg #[.int .i64 (wrap64 (-wrap64 Q)), .bool true]) (by simp [results, Try.results36, go_sem, m0, m1]; done) rfl (did_fin ?_ (Below.cast' ((HB.out.setCell (p := ⟨g8, 0, none⟩) (Nat.le_refl _) _).setCell (p := ⟨g8, 1, none⟩) (Nat.le_refl _) _) HG.out)); simp; unfold hold; (try unfold wrap64); omega)
            | (refine bodyPost_ret (v := .agg #[.int .i64 (wrap64 (-wrap64 (Q + 1))), .bool true]) (by simp [results, Try.results36, go_sem, m0, m1]; done) rfl (did_fin ?_ (Below.cast' ((HB.out.setCell (p := ⟨g8, 0, none⟩) (Nat.le_refl _) _).setCell (p := ⟨g8, 1, none⟩) (Nat.le_refl _) _) HG.out)); simp; unfold hold; (try unfold wrap64); omega)
            | (refine bodyPost_ret (v := .agg #[.int .i64 (wrap64 Q), .bool true]) (by simp [results, Try.results36, go_sem, m0, m1]; done) rfl (did_fin ?_ (Below.cast' ((HB.out.setCell (p := ⟨g8, 0, none⟩) (Nat.le_refl _) _).setCell (p := ⟨g8, 1, none⟩) (Nat.le_refl _) _) HG.out)); simp; unfold hold; (try unfold wrap64); omega)
            | (refine bodyPost_ret (v := .agg #[.int .i64 (wrap64 (Q + 1)), .bool true]) (by simp [results, Try.results36, go_sem, m0, m1]; done) rfl (did_fin ?_ (Below.cast' ((HB.out.setCell (p := ⟨g8, 0, none⟩) (Nat.le_refl _) _).setCell (p := ⟨g8, 1, none⟩) (Nat.le_refl _) _) HG.out)); simp; unfold hold; (try unfold wrap64); omega)
        · have hq2 : Q = 18446744073709551615 := by omega
          subst hq2
          go_wp2_with fail
          all_goals (have hz := hZ.out; simp at hz)
          all_goals first
            | (refine bodyPost_ret (v := .agg #[.int .i64 (-9223372036854775808), .bool false]) (by simp [results, Try.results36, go_sem, m0, m1]; done) rfl (did_fin ?_ (Below.cast' ((HB.out.setCell (p := ⟨g8, 0, none⟩) (Nat.le_refl _) _).setCell (p := ⟨g8, 1, none⟩) (Nat.le_refl _) _) HG.out)); simp; unfold hold; (try unfold wrap64); omega)
            | (refine bodyPost_ret (v := .agg #[.int .i64 9223372036854775807, .bool false]) (by simp [results, Try.results36, go_sem, m0, m1]; done) rfl (did_fin ?_ (Below.cast' ((HB.out.setCell (p := ⟨g8, 0, none⟩) (Nat.le_refl _) _).setCell (p := ⟨g8, 1, none⟩) (Nat.le_refl _) _) HG.out)); simp; unfold hold; (try unfold wrap64); omega)
            | (refine bodyPost_ret (v := .agg #[.int .i64 Q, .bool true]) (by simp [results, Try.results36, go_sem, m0, m1]; done) rfl (did_fin ?_ (Below.cast' ((HB.out.setCell (p := ⟨g8, 0, none⟩) (Nat.le_refl _) _).setCell (p := ⟨g8, 1, none⟩) (Nat.le_refl _) _) HG.out)); simp; unfold hold; (try unfold wrap64); omega)
            | (refine bodyPost_ret (v := .agg #[.int .i64 (Q + 1), .bool true]) (by simp [results, Try.results36, go_sem, m0, m1]; done) rfl (did_fin ?_ (Below.cast' ((HB.out.setCell (p := ⟨g8, 0, none⟩) (Nat.le_refl _) _).setCell (p := ⟨g8, 1, none⟩) (Nat.le_refl _) _) HG.out)); simp; unfold hold; (try unfold wrap64); omega)
            | (refine bodyPost_ret (v := .agg #[.int .i64 (wrap64 (-wrap64 Q)), .bool true]) (by simp [results, Try.results36, go_sem, m0, m1]; done) rfl (did_fin ?_ (Below.cast' ((HB.out.setCell (p := ⟨g8, 0, none⟩) (Nat.le_refl _) _).setCell (p := ⟨g8, 1, none⟩) (Nat.le_refl _) _) HG.out)); simp; unfold hold; (try unfold wrap64); omega)
            | (refine bodyPost_ret (v := .agg #[.int .i64 (wrap64 (-wrap64 (Q + 1))), .bool true]) (by simp [results, Try.results36, go_sem, m0, m1]; done) rfl (did_fin ?_ (Below.cast' ((HB.out.setCell (p := ⟨g8, 0, none⟩) (Nat.le_refl _) _).setCell (p := ⟨g8, 1, none⟩) (Nat.le_refl _) _) HG.out)); simp; unfold hold; (try unfold wrap64); omega)
            | (refine bodyPost_ret (v := .agg #[.int .i64 (wrap64 Q), .bool true]) (by simp [results, Try.results36, go_sem, m0, m1]; done) rfl (did_fin ?_ (Below.cast' ((HB.out.setCell (p := ⟨g8, 0, none⟩) (Nat.le_refl _) _).setCell (p := ⟨g8, 1, none⟩) (Nat.le_refl _) _) HG.out)); simp; unfold hold; (try unfold wrap64); omega)
            | (refine bodyPost_ret (v := .agg #[.int .i64 (wrap64 (Q + 1)), .bool true]) (by simp [results, Try.results36, go_sem, m0, m1]; done) rfl (did_fin ?_ (Below.cast' ((HB.out.setCell (p := ⟨g8, 0, none⟩) (Nat.le_refl _) _).setCell (p := ⟨g8, 1, none⟩) (Nat.le_refl _) _) HG.out)); simp; unfold hold; (try unfold wrap64); omega)
  · go_wp2_with fail
    rw [← hg8, ← hgp]
    clear hg8 hgp
    generalize w3.alloc (.cells #[.int .u64 Q, .bool over, .int .u64 L] 83) = w4 at *
    go_quiet (first | (go_at_call 45; refine Calls.quiet_of_same (H3.out _)) | fail)
    have p0 : (w4.drewN nq).cell? ⟨gp, 0, none⟩ = some (.int .u64 Q) := p0
    have p1 : (w4.drewN nq).cell? ⟨gp, 1, none⟩ = some (.bool over) := p1
    have f0 : (w4.drewN nq).frozen? ⟨g8, 0, none⟩ = false := f0
    have f1 : (w4.drewN nq).frozen? ⟨g8, 1, none⟩ = false := f1
    have m0 : (w4.drewN nq).cell? ⟨g8, 0, none⟩ = some (.int .i64 0) := m0
    have m1 : (w4.drewN nq).cell? ⟨g8, 1, none⟩ = some (.bool false) := m1
    have HB : Aside0 (Below g8 w (w4.drewN nq)) := ⟨HB.out.trans ((pw_below_drewN (Below.refl _ _) nq).mono (by rw [HG.out]; exact HB.out.size))⟩
    generalize w4.drewN nq = w4 at *
    go_wp2_with fail
    go_quiet (fail)
    have p0 : (w4.drewN nq).cell? ⟨gp, 0, none⟩ = some (.int .u64 Q) := p0
    have p1 : (w4.drewN nq).cell? ⟨gp, 1, none⟩ = some (.bool over) := p1
    have f0 : (w4.drewN nq).frozen? ⟨g8, 0, none⟩ = false := f0
    have f1 : (w4.drewN nq).frozen? ⟨g8, 1, none⟩ = false := f1
    have m0 : (w4.drewN nq).cell? ⟨g8, 0, none⟩ = some (.int .i64 0) := m0
    have m1 : (w4.drewN nq).cell? ⟨g8, 1, none⟩ = some (.bool false) := m1
    have HB : Aside0 (Below g8 w (w4.drewN nq)) := ⟨HB.out.trans ((pw_below_drewN (Below.refl _ _) nq).mono (by rw [HG.out]; exact HB.out.size))⟩
    generalize w4.drewN nq = w4 at *
    cases U with
    | false =>
      cases over with
      | false =>
        by_cases hq : Q < 18446744073709551615
        · have kz : (Q + 1 == 0) = false := beq_eq_false_iff_ne.2 (by omega)
          go_wp2_with fail
          all_goals (have hz := hZ.out; simp at hz)
          all_goals first
            | (refine bodyPost_ret (v := .agg #[.int .i64 (-9223372036854775808), .bool false]) (by simp [results, Try.results36, go_sem, m0, m1]; done) rfl (did_fin ?_ (Below.cast' ((HB.out.setCell (p := ⟨g8, 0, none⟩) (Nat.le_refl _) _).setCell (p := ⟨g8, 1, none⟩) (Nat.le_refl _) _) HG.out)); simp; unfold hold; (try unfold wrap64); omega)
            | (refine bodyPost_ret (v := .agg #[.int .i64 9223372036854775807, .bool false]) (by simp [results, Try.results36, go_sem, m0, m1]; done) rfl (did_fin ?_ (Below.cast' ((HB.out.setCell (p := ⟨g8, 0, none⟩) (Nat.le_refl _) _).setCell (p := ⟨g8, 1, none⟩) (Nat.le_refl _) _) HG.out)); simp; unfold hold; (try unfold wrap64); omega)
            | (refine bodyPost_ret (v := .agg #[.int .i64 Q, .bool true]) (by simp [results, Try.results36, go_sem, m0, m1]; done) rfl (did_fin ?_ (Below.cast' ((HB.out.setCell (p := ⟨g8, 0, none⟩) (Nat.le_refl _) _).setCell (p := ⟨g8, 1, none⟩) (Nat.le_refl _) _) HG.out)); simp; unfold hold; (try unfold wrap64); omega)
            | (refine bodyPost_ret (v := .agg #[.int .i64 (Q + 1), .bool true]) (by simp [results, Try.results36, go_sem, m0, m1]; done) rfl (did_fin ?_ (Below.cast' ((HB.out.setCell (p := ⟨g8, 0, none⟩) (Nat.le_refl _) _).setCell (p := ⟨g8, 1, none⟩) (Nat.le_refl _) _) HG.out)); simp; unfold hold; (try unfold wrap64); omega)
            | (refine bodyPost_ret (v := .agg #[.int .i64 (wrap64 (-wrap64 Q)), .bool true]) (by simp [results, Try.results36, go_sem, m0, m1]; done) rfl (did_fin ?_ (Below.cast' ((HB.out.setCell (p := ⟨g8, 0, none⟩) (Nat.le_refl _) _).setCell (p := ⟨g8, 1, none⟩) (Nat.le_refl _) _) HG.out)); simp; unfold hold; (try unfold wrap64); omega)
            | (refine bodyPost_ret (v := .agg #[.int .i64 (wrap64 (-wrap64 (Q + 1))), .bool true]) (by simp [results, Try.results36, go_sem, m0, m1]; done) rfl (did_fin ?_ (Below.cast' ((HB.out.setCell (p := ⟨g8, 0, none⟩) (Nat.le_refl _) _).setCell (p := ⟨g8, 1, none⟩) (Nat.le_refl _) _) HG.out)); simp; unfold hold; (try unfold wrap64); omega)
            | (refine bodyPost_ret (v := .agg #[.int .i64 (wrap64 Q), .bool true]) (by simp [results, Try.results36, go_sem, m0, m1]; done) rfl (did_fin ?_ (Below.cast' ((HB.out.setCell (p := ⟨g8, 0, none⟩) (Nat.le_refl _) _).setCell (p := ⟨g8, 1, none⟩) (Nat.le_refl _) _) HG.out)); simp; unfold hold; (try unfold wrap64); omega)
            | (refine bodyPost_ret (v := .agg #[.int .i64 (wrap64 (Q + 1)), .bool true]) (by simp [results, Try.results36, go_sem, m0, m1]; done) rfl (did_fin ?_ (Below.cast' ((HB.out.setCell (p := ⟨g8, 0, none⟩) (Nat.le_refl _) _).setCell (p := ⟨g8, 1, none⟩) (Nat.le_refl _) _) HG.out)); simp; unfold hold; (try unfold wrap64); omega)
        · have hq2 : Q = 18446744073709551615 := by omega
          subst hq2
          go_wp2_with fail
          all_goals (have hz := hZ.out; simp at hz)
          all_goals first
            | (refine bodyPost_ret (v := .agg #[.int .i64 (-9223372036854775808), .bool false]) (by simp [results, Try.results36, go_sem, m0, m1]; done) rfl (did_fin ?_ (Below.cast' ((HB.out.setCell (p := ⟨g8, 0, none⟩) (Nat.le_refl _) _).setCell (p := ⟨g8, 1, none⟩) (Nat.le_refl _) _) HG.out)); simp; unfold hold; (try unfold wrap64); omega)
            | (refine bodyPost_ret (v := .agg #[.int .i64 9223372036854775807, .bool false]) (by simp [results, Try.results36, go_sem, m0, m1]; done) rfl (did_fin ?_ (Below.cast' ((HB.out.setCell (p := ⟨g8, 0, none⟩) (Nat.le_refl _) _).setCell (p := ⟨g8, 1, none⟩) (Nat.le_refl _) _) HG.out)); simp; unfold hold; (try unfold wrap64); omega)
            | (refine bodyPost_ret (v := .agg #[.int .i64 Q, .bool true]) (by simp [results, Try.results36, go_sem, m0, m1]; done) rfl (did_fin ?_ (Below.cast' ((HB.out.setCell (p := ⟨g8, 0, none⟩) (Nat.le_refl _) _).setCell (p := ⟨g8, 1, none⟩) (Nat.le_refl _) _) HG.out)); simp; unfold hold; (try unfold wrap64); omega)
            | (refine bodyPost_ret (v := .agg #[.int .i64 (Q + 1), .bool true]) (by simp [results, Try.results36, go_sem, m0, m1]; done) rfl (did_fin ?_ (Below.cast' ((HB.out.setCell (p := ⟨g8, 0, none⟩) (Nat.le_refl _) _).setCell (p := ⟨g8, 1, none⟩) (Nat.le_refl _) _) HG.out)); simp; unfold hold; (try unfold wrap64); omega)
            | (refine bodyPost_ret (v := .agg #[.int .i64 (wrap64 (-wrap64 Q)), .bool true]) (by simp [results, Try.results36, go_sem, m0, m1]; done) rfl (did_fin ?_ (Below.cast' ((HB.out.setCell (p := ⟨g8, 0, none⟩) (Nat.le_refl _) _).setCell (p := ⟨g8, 1, none⟩) (Nat.le_refl _) _) HG.out)); simp; unfold hold; (try unfold wrap64); omega)
            | (refine bodyPost_ret (v := .agg #[.int .i64 (wrap64 (-wrap64 (Q + 1))), .bool true]) (by simp [results, Try.results36, go_sem, m0, m1]; done) rfl (did_fin ?_ (Below.cast' ((HB.out.setCell (p := ⟨g8, 0, none⟩) (Nat.le_refl _) _).setCell (p := ⟨g8, 1, none⟩) (Nat.le_refl _) _) HG.out)); simp; unfold hold; (try unfold wrap64); omega)
            | (refine bodyPost_ret (v := .agg #[.int .i64 (wrap64 Q), .bool true]) (by simp [results, Try.results36, go_sem, m0, m1]; done) rfl (did_fin ?_ (Below.cast' ((HB.out.setCell (p := ⟨g8, 0, none⟩) (Nat.le_refl _) _).setCell (p := ⟨g8, 1, none⟩) (Nat.le_refl _) _) HG.out)); simp; unfold hold; (try unfold wrap64); omega)
            | (refine bodyPost_ret (v := .agg #[.int .i64 (wrap64 (Q + 1)), .bool true]) (by simp [results, Try.results36, go_sem, m0, m1]; done) rfl (did_fin ?_ (Below.cast' ((HB.out.setCell (p := ⟨g8, 0, none⟩) (Nat.le_refl _) _).setCell (p := ⟨g8, 1, none⟩) (Nat.le_refl _) _) HG.out)); simp; unfold hold; (try unfold wrap64); omega)
      | true =>
        by_cases hq : Q < 18446744073709551615
        · have kz : (Q + 1 == 0) = false := beq_eq_false_iff_ne.2 (by omega)
          go_wp2_with fail
          all_goals (have hz := hZ.out; simp at hz)
          all_goals first
            | (refine bodyPost_ret (v := .agg #[.int .i64 (-9223372036854775808), .bool false]) (by simp [results, Try.results36, go_sem, m0, m1]; done) rfl (did_fin ?_ (Below.cast' ((HB.out.setCell (p := ⟨g8, 0, none⟩) (Nat.le_refl _) _).setCell (p := ⟨g8, 1, none⟩) (Nat.le_refl _) _) HG.out)); simp; unfold hold; (try unfold wrap64); omega)
            | (refine bodyPost_ret (v := .agg #[.int .i64 9223372036854775807, .bool false]) (by simp [results, Try.results36, go_sem, m0, m1]; done) rfl (did_fin ?_ (Below.cast' ((HB.out.setCell (p := ⟨g8, 0, none⟩) (Nat.le_refl _) _).setCell (p := ⟨g8, 1, none⟩) (Nat.le_refl _) _) HG.out)); simp; unfold hold; (try unfold wrap64); omega)
            | (refine bodyPost_ret (v := .agg #[.int .i64 Q, .bool true]) (by simp [results, Try.results36, go_sem, m0, m1]; done) rfl (did_fin ?_ (Below.cast' ((HB.out.setCell (p := ⟨g8, 0, none⟩) (Nat.le_refl _) _).setCell (p := ⟨g8, 1, none⟩) (Nat.le_refl _) _) HG.out)); simp; unfold hold; (try unfold wrap64); omega)
            | (refine bodyPost_ret (v := .agg #[.int .i64 (Q + 1), .bool true]) (by simp [results, Try.results36, go_sem, m0, m1]; done) rfl (did_fin ?_ (Below.cast' ((HB.out.setCell (p := ⟨g8, 0, none⟩) (Nat.le_refl _) _).setCell (p := ⟨g8, 1, none⟩) (Nat.le_refl _) _) HG.out)); simp; unfold hold; (try unfold wrap64); omega)
            | (refine bodyPost_ret (v := .agg #[.int .i64 (wrap64 (-wrap64 Q)), .bool true]) (by simp [results, Try.results36, go_sem, m0, m1]; done) rfl (did_fin ?_ (Below.cast' ((HB.out.setCell (p := ⟨g8, 0, none⟩) (Nat.le_refl _) _).setCell (p := ⟨g8, 1, none⟩) (Nat.le_refl _) _) HG.out)); simp; unfold hold; (try unfold wrap64); omega)
            | (refine bodyPost_ret (v := .agg #[.int .i64 (wrap64 (-wrap64 (Q + 1))), .bool true]) (by simp [results, Try.results36, go_sem, m0, m1]; done) rfl (did_fin ?_ (Below.cast' ((HB.out.setCell (p := ⟨g8, 0, none⟩) (Nat.le_refl _) _).setCell (p := ⟨g8, 1, none⟩) (Nat.le_refl _) _) HG.out)); simp; unfold hold; (try unfold wrap64); omega)
            | (refine bodyPost_ret (v := .agg #[.int .i64 (wrap64 Q), .bool true]) (by simp [results, Try.results36, go_sem, m0, m1]; done) rfl (did_fin ?_ (Below.cast' ((HB.out.setCell (p := ⟨g8, 0, none⟩) (Nat.le_refl _) _).setCell (p := ⟨g8, 1, none⟩) (Nat.le_refl _) _) HG.out)); simp; unfold hold; (try unfold wrap64); omega)
            | (refine bodyPost_ret (v := .agg #[.int .i64 (wrap64 (Q + 1)), .bool true]) (by simp [results, Try.results36, go_sem, m0, m1]; done) rfl (did_fin ?_ (Below.cast' ((HB.out.setCell (p := ⟨g8, 0, none⟩) (Nat.le_refl _) _).setCell (p := ⟨g8, 1, none⟩) (Nat.le_refl _) _) HG.out)); simp; unfold hold; (try unfold wrap64); omega)
        · have hq2 : Q = 18446744073709551615 := by omega
          subst hq2
          go_wp2_with fail
          all_goals (have hz := hZ.out; simp at hz)
          all_goals first
            | (refine bodyPost_ret (v := .agg #[.int .i64 (-9223372036854775808), .bool false]) (by simp [results, Try.results36, go_sem, m0, m1]; done) rfl (did_fin ?_ (Below.cast' ((HB.out.setCell (p := ⟨g8, 0, none⟩) (Nat.le_refl _) _).setCell (p := ⟨g8, 1, none⟩) (Nat.le_refl _) _) HG.out)); simp; unfold hold; (try unfold wrap64); omega)
            | (refine bodyPost_ret (v := .agg #[.int .i64 9223372036854775807, .bool false]) (by simp [results, Try.results36, go_sem, m0, m1]; done) rfl (did_fin ?_ (Below.cast' ((HB.out.setCell (p := ⟨g8, 0, none⟩) (Nat.le_refl _) _).setCell (p := ⟨g8, 1, none⟩) (Nat.le_refl _) _) HG.out)); simp; unfold hold; (try unfold wrap64); omega)
            | (refine bodyPost_ret (v := .agg #[.int .i64 Q, .bool true]) (by simp [results, Try.results36, go_sem, m0, m1]; done) rfl (did_fin ?_ (Below.cast' ((HB.out.setCell (p := ⟨g8, 0, none⟩) (Nat.le_refl _) _).setCell (p := ⟨g8, 1, none⟩) (Nat.le_refl _) _) HG.out)); simp; unfold hold; (try unfold wrap64); omega)
            | (refine bodyPost_ret (v := .agg #[.int .i64 (Q + 1), .bool true]) (by simp [results, Try.results36, go_sem, m0, m1]; done) rfl (did_fin ?_ (Below.cast' ((HB.out.setCell (p := ⟨g8, 0, none⟩) (Nat.le_refl _) _).setCell (p := ⟨g8, 1, none⟩) (Nat.le_refl _) _) HG.out)); simp; unfold hold; (try unfold wrap64); omega)
            | (refine bodyPost_ret (v := .agg #[.int .i64 (wrap64 (-wrap64 Q)), .bool true]) (by simp [results, Try.results36, go_sem, m0, m1]; done) rfl (did_fin ?_ (Below.cast' ((HB.out.setCell (p := ⟨g8, 0, none⟩) (Nat.le_refl _) _).setCell (p := ⟨g8, 1, none⟩) (Nat.le_refl _) _) HG.out)); simp; unfold hold; (try unfold wrap64); omega)
            | (refine bodyPost_ret (v := .agg #[.int .i64 (wrap64 (-wrap64 (Q + 1))), .bool true]) (by simp [results, Try.results36, go_sem, m0, m1]; done) rfl (did_fin ?_ (Below.cast' ((HB.out.setCell (p := ⟨g8, 0, none⟩) (Nat.le_refl _) _).setCell (p := ⟨g8, 1, none⟩) (Nat.le_refl _) _) HG.out)); simp; unfold hold; (try unfold wrap64); omega)
            | (refine bodyPost_ret (v := .agg #[.int .i64 (wrap64 Q), .bool true]) (by simp [results, Try.results36, go_sem, m0, m1]; done) rfl (did_fin ?_ (Below.cast' ((HB.out.setCell (p := ⟨g8, 0, none⟩) (Nat.le_refl _) _).setCell (p := ⟨g8, 1, none⟩) (Nat.le_refl _) _) HG.out)); simp; unfold hold; (try unfold wrap64); omega)
            | (refine bodyPost_ret (v := .agg #[.int .i64 (wrap64 (Q + 1)), .bool true]) (by simp [results, Try.results36, go_sem, m0, m1]; done) rfl (did_fin ?_ (Below.cast' ((HB.out.setCell (p := ⟨g8, 0, none⟩) (Nat.le_refl _) _).setCell (p := ⟨g8, 1, none⟩) (Nat.le_refl _) _) HG.out)); simp; unfold hold; (try unfold wrap64); omega)
    | true =>
      cases over with
      | false =>
        by_cases hq : Q < 18446744073709551615
        · have kz : (Q + 1 == 0) = false := beq_eq_false_iff_ne.2 (by omega)
          go_wp2_with fail
          all_goals (have hz := hZ.out; simp at hz)
          all_goals first
            | (refine bodyPost_ret (v := .agg #[.int .i64 (-9223372036854775808), .bool false]) (by simp [results, Try.results36, go_sem, m0, m1]; done) rfl (did_fin ?_ (Below.cast' ((HB.out.setCell (p := ⟨g8, 0, none⟩) (Nat.le_refl _) _).setCell (p := ⟨g8, 1, none⟩) (Nat.le_refl _) _) HG.out)); simp; unfold hold; (try unfold wrap64); omega)
            | (refine bodyPost_ret (v := .agg #[.int .i64 9223372036854775807, .bool false]) (by simp [results, Try.results36, go_sem, m0, m1]; done) rfl (did_fin ?_ (Below.cast' ((HB.out.setCell (p := ⟨g8, 0, none⟩) (Nat.le_refl _) _).setCell (p := ⟨g8, 1, none⟩) (Nat.le_refl _) _) HG.out)); simp; unfold hold; (try unfold wrap64); omega)
            | (refine bodyPost_ret (v := .agg #[.int .i64 Q, .bool true]) (by simp [results, Try.results36, go_sem, m0, m1]; done) rfl (did_fin ?_ (Below.cast' ((HB.out.setCell (p := ⟨g8, 0, none⟩) (Nat.le_refl _) _).setCell (p := ⟨g8, 1, none⟩) (Nat.le_refl _) _) HG.out)); simp; unfold hold; (try unfold wrap64); omega)
            | (refine bodyPost_ret (v := .agg #[.int .i64 (Q + 1), .bool true]) (by simp [results, Try.results36, go_sem, m0, m1]; done) rfl (did_fin ?_ (Below.cast' ((HB.out.setCell (p := ⟨g8, 0, none⟩) (Nat.le_refl _) _).setCell (p := ⟨g8, 1, none⟩) (Nat.le_refl _) _) HG.out)); simp; unfold hold; (try unfold wrap64); omega)
            | (refine bodyPost_ret (v := .agg #[.int .i64 (wrap64 (-wrap64 Q)), .bool true]) (by simp [results, Try.results36, go_sem, m0, m1]; done) rfl (did_fin ?_ (Below.cast' ((HB.out.setCell (p := ⟨g8, 0, none⟩) (Nat.le_refl _) _).setCell (p := ⟨g8, 1, none⟩) (Nat.le_refl _) _) HG.out)); simp; unfold hold; (try unfold wrap64); omega)
            | (refine bodyPost_ret (v := .agg #[.int .i64 (wrap64 (-wrap64 (Q + 1))), .bool true]) (by simp [results, Try.results36, go_sem, m0, m1]; done) rfl (did_fin ?_ (Below.cast' ((HB.out.setCell (p := ⟨g8, 0, none⟩) (Nat.le_refl _) _).setCell (p := ⟨g8, 1, none⟩) (Nat.le_refl _) _) HG.out)); simp; unfold hold; (try unfold wrap64); omega)
            | (refine bodyPost_ret (v := .agg #[.int .i64 (wrap64 Q), .bool true]) (by simp [results, Try.results36, go_sem, m0, m1]; done) rfl (did_fin ?_ (Below.cast' ((HB.out.setCell (p := ⟨g8, 0, none⟩) (Nat.le_refl _) _).setCell (p := ⟨g8, 1, none⟩) (Nat.le_refl _) _) HG.out)); simp; unfold hold; (try unfold wrap64); omega)
            | (refine bodyPost_ret (v := .agg #[.int .i64 (wrap64 (Q + 1)), .bool true]) (by simp [results, Try.results36, go_sem, m0, m1]; done) rfl (did_fin ?_ (Below.cast' ((HB.out.setCell (p := ⟨g8, 0, none⟩) (Nat.le_refl _) _).setCell (p := ⟨g8, 1, none⟩) (Nat.le_refl _) _) HG.out)); simp; unfold hold; (try unfold wrap64); omega)
        · have hq2 : Q = 18446744073709551615 := by omega
          subst hq2
          go_wp2_with fail
          all_goals (have hz := hZ.out; simp at hz)
          all_goals first
            | (refine bodyPost_ret (v := .agg #[.int .i64 (-9223372036854775808), .bool false]) (by simp [results, Try.results36, go_sem, m0, m1]; done) rfl (did_fin ?_ (Below.cast' ((HB.out.setCell (p := ⟨g8, 0, none⟩) (Nat.le_refl _) _).setCell (p := ⟨g8, 1, none⟩) (Nat.le_refl _) _) HG.out)); simp; unfold hold; (try unfold wrap64); omega)
            | (refine bodyPost_ret (v := .agg #[.int .i64 9223372036854775807, .bool false]) (by simp [results, Try.results36, go_sem, m0, m1]; done) rfl (did_fin ?_ (Below.cast' ((HB.out.setCell (p := ⟨g8, 0, none⟩) (Nat.le_refl _) _).setCell (p := ⟨g8, 1, none⟩) (Nat.le_refl _) _) HG.out)); simp; unfold hold; (try unfold wrap64); omega)
            | (refine bodyPost_ret (v := .agg #[.int .i64 Q, .bool true]) (by simp [results, Try.results36, go_sem, m0, m1]; done) rfl (did_fin ?_ (Below.cast' ((HB.out.setCell (p := ⟨g8, 0, none⟩) (Nat.le_refl _) _).setCell (p := ⟨g8, 1, none⟩) (Nat.le_refl _) _) HG.out)); simp; unfold hold; (try unfold wrap64); omega)
            | (refine bodyPost_ret (v := .agg #[.int .i64 (Q + 1), .bool true]) (by simp [results, Try.results36, go_sem, m0, m1]; done) rfl (did_fin ?_ (Below.cast' ((HB.out.setCell (p := ⟨g8, 0, none⟩) (Nat.le_refl _) _).setCell (p := ⟨g8, 1, none⟩) (Nat.le_refl _) _) HG.out)); simp; unfold hold; (try unfold wrap64); omega)
            | (refine bodyPost_ret (v := .agg #[.int .i64 (wrap64 (-wrap64 Q)), .bool true]) (by simp [results, Try.results36, go_sem, m0, m1]; done) rfl (did_fin ?_ (Below.cast' ((HB.out.setCell (p := ⟨g8, 0, none⟩) (Nat.le_refl _) _).setCell (p := ⟨g8, 1, none⟩) (Nat.le_refl _) _) HG.out)); simp; unfold hold; (try unfold wrap64); omega)
            | (refine bodyPost_ret (v := .agg #[.int .i64 (wrap64 (-wrap64 (Q + 1))), .bool true]) (by simp [results, Try.results36, go_sem, m0, m1]; done) rfl (did_fin ?_ (Below.cast' ((HB.out.setCell (p := ⟨g8, 0, none⟩) (Nat.le_refl _) _).setCell (p := ⟨g8, 1, none⟩) (Nat.le_refl _) _) HG.out)); simp; unfold hold; (try unfold wrap64); omega)
            | (refine bodyPost_ret (v := .agg #[.int .i64 (wrap64 Q), .bool true]) (by simp [results, Try.results36, go_sem, m0, m1]; done) rfl (did_fin ?_ (Below.cast' ((HB.out.setCell (p := ⟨g8, 0, none⟩) (Nat.le_refl _) _).setCell (p := ⟨g8, 1, none⟩) (Nat.le_refl _) _) HG.out)); simp; unfold hold; (try unfold wrap64); omega)
            | (refine bodyPost_ret (v := .agg #[.int .i64 (wrap64 (Q + 1)), .bool true]) (by simp [results, Try.results36, go_sem, m0, m1]; done) rfl (did_fin ?_ (Below.cast' ((HB.out.setCell (p := ⟨g8, 0, none⟩) (Nat.le_refl _) _).setCell (p := ⟨g8, 1, none⟩) (Nat.le_refl _) _) HG.out)); simp; unfold hold; (try unfold wrap64); omega)
      | true =>
        by_cases hq : Q < 18446744073709551615
        · have kz : (Q + 1 == 0) = false := beq_eq_false_iff_ne.2 (by omega)
          go_wp2_with fail
          all_goals (have hz := hZ.out; simp at hz)
          all_goals first
            | (refine bodyPost_ret (v := .agg #[.int .i64 (-9223372036854775808), .bool false]) (by simp [results, Try.results36, go_sem, m0, m1]; done) rfl (did_fin ?_ (Below.cast' ((HB.out.setCell (p := ⟨g8, 0, none⟩) (Nat.le_refl _) _).setCell (p := ⟨g8, 1, none⟩) (Nat.le_refl _) _) HG.out)); simp; unfold hold; (try unfold wrap64); omega)
            | (refine bodyPost_ret (v := .agg #[.int .i64 9223372036854775807, .bool false]) (by simp [results, Try.results36, go_sem, m0, m1]; done) rfl (did_fin ?_ (Below.cast' ((HB.out.setCell (p := ⟨g8, 0, none⟩) (Nat.le_refl _) _).setCell (p := ⟨g8, 1, none⟩) (Nat.le_refl _) _) HG.out)); simp; unfold hold; (try unfold wrap64); omega)
            | (refine bodyPost_ret (v := .agg #[.int .i64 Q, .bool true]) (by simp [results, Try.results36, go_sem, m0, m1]; done) rfl (did_fin ?_ (Below.cast' ((HB.out.setCell (p := ⟨g8, 0, none⟩) (Nat.le_refl _) _).setCell (p := ⟨g8, 1, none⟩) (Nat.le_refl _) _) HG.out)); simp; unfold hold; (try unfold wrap64); omega)
            | (refine bodyPost_ret (v := .agg #[.int .i64 (Q + 1), .bool true]) (by simp [results, Try.results36, go_sem, m0, m1]; done) rfl (did_fin ?_ (Below.cast' ((HB.out.setCell (p := ⟨g8, 0, none⟩) (Nat.le_refl _) _).setCell (p := ⟨g8, 1, none⟩) (Nat.le_refl _) _) HG.out)); simp; unfold hold; (try unfold wrap64); omega)
            | (refine bodyPost_ret (v := .agg #[.int .i64 (wrap64 (-wrap64 Q)), .bool true]) (by simp [results, Try.results36, go_sem, m0, m1]; done) rfl (did_fin ?_ (Below.cast' ((HB.out.setCell (p := ⟨g8, 0, none⟩) (Nat.le_refl _) _).setCell (p := ⟨g8, 1, none⟩) (Nat.le_refl _) _) HG.out)); simp; unfold hold; (try unfold wrap64); omega)
            | (refine bodyPost_ret (v := .agg #[.int .i64 (wrap64 (-wrap64 (Q + 1))), .bool true]) (by simp [results, Try.results36, go_sem, m0, m1]; done) rfl (did_fin ?_ (Below.cast' ((HB.out.setCell (p := ⟨g8, 0, none⟩) (Nat.le_refl _) _).setCell (p := ⟨g8, 1, none⟩) (Nat.le_refl _) _) HG.out)); simp; unfold hold; (try unfold wrap64); omega)
            | (refine bodyPost_ret (v := .agg #[.int .i64 (wrap64 Q), .bool true]) (by simp [results, Try.results36, go_sem, m0, m1]; done) rfl (did_fin ?_ (Below.cast' ((HB.out.setCell (p := ⟨g8, 0, none⟩) (Nat.le_refl _) _).setCell (p := ⟨g8, 1, none⟩) (Nat.le_refl _) _) HG.out)); simp; unfold hold; (try unfold wrap64); omega)
            | (refine bodyPost_ret (v := .agg #[.int .i64 (wrap64 (Q + 1)), .bool true]) (by simp [results, Try.results36, go_sem, m0, m1]; done) rfl (did_fin ?_ (Below.cast' ((HB.out.setCell (p := ⟨g8, 0, none⟩) (Nat.le_refl _) _).setCell (p := ⟨g8, 1, none⟩) (Nat.le_refl _) _) HG.out)); simp; unfold hold; (try unfold wrap64); omega)
        · have hq2 : Q = 18446744073709551615 := by omega
          subst hq2
          go_wp2_with fail
          all_goals (have hz := hZ.out; simp at hz)
          all_goals first
            | (refine bodyPost_ret (v := .agg #[.int .i64 (-9223372036854775808), .bool false]) (by simp [results, Try.results36, go_sem, m0, m1]; done) rfl (did_fin ?_ (Below.cast' ((HB.out.setCell (p := ⟨g8, 0, none⟩) (Nat.le_refl _) _).setCell (p := ⟨g8, 1, none⟩) (Nat.le_refl _) _) HG.out)); simp; unfold hold; (try unfold wrap64); omega)
            | (refine bodyPost_ret (v := .agg #[.int .i64 9223372036854775807, .bool false]) (by simp [results, Try.results36, go_sem, m0, m1]; done) rfl (did_fin ?_ (Below.cast' ((HB.out.setCell (p := ⟨g8, 0, none⟩) (Nat.le_refl _) _).setCell (p := ⟨g8, 1, none⟩) (Nat.le_refl _) _) HG.out)); simp; unfold hold; (try unfold wrap64); omega)
            | (refine bodyPost_ret (v := .agg #[.int .i64 Q, .bool true]) (by simp [results, Try.results36, go_sem, m0, m1]; done) rfl (did_fin ?_ (Below.cast' ((HB.out.setCell (p := ⟨g8, 0, none⟩) (Nat.le_refl _) _).setCell (p := ⟨g8, 1, none⟩) (Nat.le_refl _) _) HG.out)); simp; unfold hold; (try unfold wrap64); omega)
            | (refine bodyPost_ret (v := .agg #[.int .i64 (Q + 1), .bool true]) (by simp [results, Try.results36, go_sem, m0, m1]; done) rfl (did_fin ?_ (Below.cast' ((HB.out.setCell (p := ⟨g8, 0, none⟩) (Nat.le_refl _) _).setCell (p := ⟨g8, 1, none⟩) (Nat.le_refl _) _) HG.out)); simp; unfold hold; (try unfold wrap64); omega)
            | (refine bodyPost_ret (v := .agg #[.int .i64 (wrap64 (-wrap64 Q)), .bool true]) (by simp [results, Try.results36, go_sem, m0, m1]; done) rfl (did_fin ?_ (Below.cast' ((HB.out.setCell (p := ⟨g8, 0, none⟩) (Nat.le_refl _) _).setCell (p := ⟨g8, 1, none⟩) (Nat.le_refl _) _) HG.out)); simp; unfold hold; (try unfold wrap64); omega)
            | (refine bodyPost_ret (v := .agg #[.int .i64 (wrap64 (-wrap64 (Q + 1))), .bool true]) (by simp [results, Try.results36, go_sem, m0, m1]; done) rfl (did_fin ?_ (Below.cast' ((HB.out.setCell (p := ⟨g8, 0, none⟩) (Nat.le_refl _) _).setCell (p := ⟨g8, 1, none⟩) (Nat.le_refl _) _) HG.out)); simp; unfold hold; (try unfold wrap64); omega)
            | (refine bodyPost_ret (v := .agg #[.int .i64 (wrap64 Q), .bool true]) (by simp [results, Try.results36, go_sem, m0, m1]; done) rfl (did_fin ?_ (Below.cast' ((HB.out.setCell (p := ⟨g8, 0, none⟩) (Nat.le_refl _) _).setCell (p := ⟨g8, 1, none⟩) (Nat.le_refl _) _) HG.out)); simp; unfold hold; (try unfold wrap64); omega)
            | (refine bodyPost_ret (v := .agg #[.int .i64 (wrap64 (Q + 1)), .bool true]) (by simp [results, Try.results36, go_sem, m0, m1]; done) rfl (did_fin ?_ (Below.cast' ((HB.out.setCell (p := ⟨g8, 0, none⟩) (Nat.le_refl _) _).setCell (p := ⟨g8, 1, none⟩) (Nat.le_refl _) _) HG.out)); simp; unfold hold; (try unfold wrap64); omega)
end Go.Proofs.Ytpmbacgdbnfeeaa.B
