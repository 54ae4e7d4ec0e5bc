/-
  The third controller: a whole report, and the call that wakes it. Walks over the program.
-/
import Derived.Test.YthlgndgacmalaaaSh
import Derived.Test.YthlgndgacmalaaaSn
import Derived.Test.YthlgndgacmalaaaSp
namespace Go.Proofs.Ythlgndgacmalaaa.B
open Go.RowKit Go.Proofs.YthlgndgacmalaaaW.PrintWords Go.Proofs.YthlgndgacmalaaaW.PrintLast Go.Proofs.YthlgndgacmalaaaW.PrintMore
set_option linter.unusedVariables false
set_option linter.unusedSimpArgs false
theorem hear_any (g : Nat) (s : Sc) (acked delay rtt now : Int) (lost ecn : Bool) (w : World) (hs : ScIs w g s) (hok : ScOk s) :
    Calls Try.prog 11 #[.pointer (some ⟨g, 0, none⟩), .int .i64 acked, .int .i64 delay, .bool lost, .bool ecn, .int .i64 rtt, .int .i64 now] w (HearQ g w (s.hear acked delay lost ecn rtt now)) := by
  have hR := cl_range (a := rtt) (lo := 1000) (hi := 1000000) (by omega)
  have hA := cl_range (a := acked) (lo := 0) (hi := 16777216) (by omega)
  have hD := cl_range (a := delay) (lo := 0) (hi := 1000000) (by omega)
  exact hear_walk g s acked delay rtt now _ _ _ _ lost ecn w _ hs hok (i64_const (by omega) (by omega)) (i64_const (by omega) (by omega)) hD.1 hD.2 ⟨fun w => clamp_any _ _ _ w⟩ ⟨fun w => clamp_any _ _ _ w⟩ ⟨fun w => clamp_any _ _ _ w⟩ ⟨fun w => clamp_any _ _ _ w⟩ ⟨rfl⟩
set_option maxHeartbeats 1000000 in
theorem wakes_any (w : World) : Calls Try.prog 9 #[] w fun e w' => e = .returned (.bool true) ∧ Below w.heap.size w w' := by
  go_enter Try.func9, Try.ntmps9
  go_wp2_with fail
  refine (scnew_good 1000000 1000 5000000 _ (by decide)).mono ?_
  rintro e w1 ⟨g, rfl, hg, hS, hB⟩
  have hO := made_ok 1000000 1000 5000000 (by decide)
  rw [made_wakes] at hS hO
  have HS := Aside0.mk hS
  have HO := Aside0.mk hO
  clear hS hO
  go_wp2_with fail
  refine (window_any g _ _ HS.out).mono ?_
  rintro e w2 ⟨rfl, rfl⟩
  go_wp2_with fail
  refine (fast_any g _ _ HS.out).mono ?_
  rintro e w2 ⟨rfl, rfl⟩
  go_wp2_with fail
  refine (hear_any g _ 1200 0 100000 0 false false _ HS.out HO.out).mono ?_
  rintro e w2 ⟨rfl, hS2, hT2⟩
  rw [hear_wakes1] at hS2 ⊢
  have HS2 := Aside0.mk hS2
  have O2 : Aside0 (ScOk s1w) := ⟨by unfold ScOk s1w I64; dsimp only; omega⟩
  clear hS2
  go_wp2_with fail
  refine (hear_any g _ 0 0 100000 10 true false _ HS2.out O2.out).mono ?_
  rintro e w3 ⟨rfl, hS3, hT3⟩
  rw [hear_wakes2]
  clear hS3
  go_wp2_with fail
  go_ret
  exact ⟨rfl, ((hB.trans (hT2.toBelow hB.size (fun i hi => by omega))).trans (hT3.toBelow (Nat.le_trans hB.size hT2.size) (fun i hi => by omega)))⟩
set_option maxHeartbeats 1000000 in
theorem none_true (k a d : Int) (l e : Bool) (r n : Int) (w : World) (_ : I64 k) (_ : I64 a) (_ : I64 d) (_ : I64 r) (_ : I64 n) : Calls Try.prog 7 #[.agg #[.int .i64 k, .int .i64 a, .int .i64 d, .bool l, .bool e, .int .i64 r, .int .i64 n]] w fun e w' => e = .returned (.bool true) ∧ Below w.heap.size w w' := by
  go_enter Try.func7, Try.ntmps7
  go_wp2_with fail
  refine (age_nil _ _).mono ?_
  rintro e1 w1 ⟨rfl, rfl⟩
  go_wp2_with fail
  refine (hear_nil _ _ _ _ _ _ _).mono ?_
  rintro e1 w1 ⟨rfl, rfl⟩
  go_wp2_with fail
  refine (window_nil _).mono ?_
  rintro e1 w1 ⟨rfl, rfl⟩
  go_wp2_with fail
  refine (rate_nil _).mono ?_
  rintro e1 w1 ⟨rfl, rfl⟩
  go_wp2_with fail
  refine (fast_nil _).mono ?_
  rintro e1 w1 ⟨rfl, rfl⟩
  go_wp2_with fail
  refine (wakes_any _).mono ?_
  rintro e1 w1 ⟨rfl, hB⟩
  go_wp2_with fail
  go_ret
  exact ⟨rfl, ((Below.refl _ _).alloc (Nat.le_refl _) _).trans (hB.mono (by simp))⟩
end Go.Proofs.Ythlgndgacmalaaa.B
