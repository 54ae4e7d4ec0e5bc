/-
  Numbers with 32 bits behind the point: what the program's fixed computes.
-/
import Derived.Test.YthlgndgacmalaaaMo
import Derived.Test.YthlgndgacmalaaaSm
namespace Go.Proofs.Ythlgndgacmalaaa.B
open Go.RowKit Go.Proofs.YthlgndgacmalaaaW.PrintWords Go.Proofs.YthlgndgacmalaaaW.PrintLast Go.Proofs.YthlgndgacmalaaaW.PrintMore
set_option linter.unusedVariables false
set_option linter.unusedSimpArgs false
theorem i64_const {n : Int} (h0 : -9223372036854775808 ≤ n) (h1 : n ≤ 9223372036854775807) : I64 n := ⟨h0, h1⟩
theorem hold_i64 (n : Int) : I64 (hold n) := hold_range n
theorem fof_any (a : Int) (ha : I64 a) (w : World) : Calls Try.prog 38 #[.int .i64 a] w fun e w' => e = .returned (.int .i64 (hold (a * 4294967296))) ∧ Below w.heap.size w w' := by
  have H := Aside0.mk (fun w => satmul_any a 4294967296 ha (i64_const (by omega) (by omega)) w)
  clear ha
  generalize hold (a * 4294967296) = V at *
  go_enter Try.func38, Try.ntmps38
  go_wp2_with fail
  refine (H.out _).mono ?_
  rintro e w1 ⟨rfl, hB⟩
  go_wp2
  go_ret
  exact ⟨rfl, hB⟩
theorem fint_any (a : Int) (ha : I64 a) (w : World) : Calls Try.prog 39 #[.int .i64 a] w fun e w' => e = .returned (.int .i64 (mdo a 1 4294967296 1)) ∧ Below w.heap.size w w' := by
  have H := Aside0.mk (fun w => do_any a 1 4294967296 1 ha (i64_const (by omega) (by omega)) (i64_const (by omega) (by omega)) w)
  clear ha
  generalize mdo a 1 4294967296 1 = V at *
  go_enter Try.func39, Try.ntmps39
  go_wp2_with fail
  refine (H.out _).mono ?_
  rintro e w1 ⟨rfl, hB⟩
  go_wp2
  go_ret
  exact ⟨rfl, hB⟩
theorem fmul_any (a b : Int) (ha : I64 a) (hb : I64 b) (w : World) : Calls Try.prog 40 #[.int .i64 a, .int .i64 b] w fun e w' => e = .returned (.int .i64 (mdo a b 4294967296 2)) ∧ Below w.heap.size w w' := by
  have H := Aside0.mk (fun w => do_any a b 4294967296 2 ha hb (i64_const (by omega) (by omega)) w)
  clear ha hb
  generalize mdo a b 4294967296 2 = V at *
  go_enter Try.func40, Try.ntmps40
  go_wp2_with fail
  refine (H.out _).mono ?_
  rintro e w1 ⟨rfl, hB⟩
  go_wp2
  go_ret
  exact ⟨rfl, hB⟩
theorem fdiv_any (a b : Int) (ha : I64 a) (hb : I64 b) (w : World) : Calls Try.prog 37 #[.int .i64 a, .int .i64 b] w fun e w' => e = .returned (.int .i64 (mdo a 4294967296 b 2)) ∧ Below w.heap.size w w' := by
  have H := Aside0.mk (fun w => do_any a 4294967296 b 2 ha (i64_const (by omega) (by omega)) hb w)
  clear ha hb
  generalize mdo a 4294967296 b 2 = V at *
  go_enter Try.func37, Try.ntmps37
  go_wp2_with fail
  refine (H.out _).mono ?_
  rintro e w1 ⟨rfl, hB⟩
  go_wp2
  go_ret
  exact ⟨rfl, hB⟩
end Go.Proofs.Ythlgndgacmalaaa.B
