/-
  Ticks, bytes and rates: what the program's units compute.
-/
import Derived.Test.YtpmbacgdbnfeeaaMo
namespace Go.Proofs.Ytpmbacgdbnfeeaa.B
open Go.RowKit Go.Proofs.YtpmbacgdbnfeeaaW.PrintWords Go.Proofs.YtpmbacgdbnfeeaaW.PrintLast Go.Proofs.YtpmbacgdbnfeeaaW.PrintMore
set_option linter.unusedVariables false
set_option linter.unusedSimpArgs false
theorem urate_any (n t : Int) (hn : I64 n) (hr : I64 t) (w : World) : Calls Try.prog 27 #[.int .i64 n, .int .i64 t] w fun e w' => e = .returned (.int .i64 (mdo n 8000000 t 1)) ∧ Below w.heap.size w w' := by
  have H := Aside0.mk (fun w => do_any n 8000000 t 1 hn (by unfold I64; omega) hr w)
  clear hr hn
  generalize mdo n 8000000 t 1 = V at *
  go_enter Try.func27, Try.ntmps27
  go_wp2_with fail
  refine (H.out _).mono ?_
  rintro e w1 ⟨rfl, hB⟩
  go_wp2
  go_ret
  exact ⟨rfl, hB⟩
end Go.Proofs.Ytpmbacgdbnfeeaa.B
