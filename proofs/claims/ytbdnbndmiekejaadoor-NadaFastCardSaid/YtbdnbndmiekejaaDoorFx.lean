/-
  Numbers with 32 bits behind the point: what the program's fixed computes.
-/
import Derived.Test.YtbdnbndmiekejaaDoorMo
import Derived.Test.YtbdnbndmiekejaaDoorSm
namespace Go.Proofs.YtbdnbndmiekejaaDoor.B
open Go.RowKit Go.Proofs.YtbdnbndmiekejaaDoorW.PrintWords Go.Proofs.YtbdnbndmiekejaaDoorW.PrintLast Go.Proofs.YtbdnbndmiekejaaDoorW.PrintMore
set_option linter.unusedVariables false
set_option linter.unusedSimpArgs false
theorem i64_const {n : Int} (h0 : -9223372036854775808 ≤ n) (h1 : n ≤ 9223372036854775807) : I64 n := ⟨h0, h1⟩
theorem hold_i64 (n : Int) : I64 (hold n) := hold_range n
theorem fof_any (a : Int) (ha : I64 a) (w : World) : Calls Tryd.prog 19 #[.int .i64 a] w fun e w' => e = .returned (.int .i64 (hold (a * 4294967296))) ∧ Below w.heap.size w w' := by
  have H := Aside0.mk (fun w => satmul_any a 4294967296 ha (i64_const (by omega) (by omega)) w)
  clear ha
  generalize hold (a * 4294967296) = V at *
  go_enter Tryd.func19, Tryd.ntmps19
  go_wp2_with fail
  refine (H.out _).mono ?_
  rintro e w1 ⟨rfl, hB⟩
  go_wp2
  go_ret
  exact ⟨rfl, hB⟩
theorem fint_any (a : Int) (ha : I64 a) (w : World) : Calls Tryd.prog 20 #[.int .i64 a] w fun e w' => e = .returned (.int .i64 (mdo a 1 4294967296 1)) ∧ Below w.heap.size w w' := by
  have H := Aside0.mk (fun w => do_any a 1 4294967296 1 ha (i64_const (by omega) (by omega)) (i64_const (by omega) (by omega)) w)
  clear ha
  generalize mdo a 1 4294967296 1 = V at *
  go_enter Tryd.func20, Tryd.ntmps20
  go_wp2_with fail
  refine (H.out _).mono ?_
  rintro e w1 ⟨rfl, hB⟩
  go_wp2
  go_ret
  exact ⟨rfl, hB⟩
theorem fmul_any (a b : Int) (ha : I64 a) (hb : I64 b) (w : World) : Calls Tryd.prog 21 #[.int .i64 a, .int .i64 b] w fun e w' => e = .returned (.int .i64 (mdo a b 4294967296 2)) ∧ Below w.heap.size w w' := by
  have H := Aside0.mk (fun w => do_any a b 4294967296 2 ha hb (i64_const (by omega) (by omega)) w)
  clear ha hb
  generalize mdo a b 4294967296 2 = V at *
  go_enter Tryd.func21, Tryd.ntmps21
  go_wp2_with fail
  refine (H.out _).mono ?_
  rintro e w1 ⟨rfl, hB⟩
  go_wp2
  go_ret
  exact ⟨rfl, hB⟩
theorem fdiv_any (a b : Int) (ha : I64 a) (hb : I64 b) (w : World) : Calls Tryd.prog 18 #[.int .i64 a, .int .i64 b] w fun e w' => e = .returned (.int .i64 (mdo a 4294967296 b 2)) ∧ Below w.heap.size w w' := by
  have H := Aside0.mk (fun w => do_any a 4294967296 b 2 ha (i64_const (by omega) (by omega)) hb w)
  clear ha hb
  generalize mdo a 4294967296 b 2 = V at *
  go_enter Tryd.func18, Tryd.ntmps18
  go_wp2_with fail
  refine (H.out _).mono ?_
  rintro e w1 ⟨rfl, hB⟩
  go_wp2
  go_ret
  exact ⟨rfl, hB⟩
end Go.Proofs.YtbdnbndmiekejaaDoor.B
