/-
  Ticks, bytes and rates: what the program's units compute.
-/
import Derived.Test.YtaghgjmcjmjfiaaMo
namespace Go.Proofs.Ytaghgjmcjmjfiaa.B
open Go.RowKit Go.Proofs.YtaghgjmcjmjfiaaW.PrintWords Go.Proofs.YtaghgjmcjmjfiaaW.PrintLast Go.Proofs.YtaghgjmcjmjfiaaW.PrintMore
set_option linter.unusedVariables false
set_option linter.unusedSimpArgs false
theorem rticks_any (r n : Int) (hr : I64 r) (hn : I64 n) (w : World) : Calls Try.prog 20 #[.int .i64 r, .int .i64 n] w fun e w' => e = .returned (.int .i64 (mdo n 8000000 r 3)) ∧ Below w.heap.size w w' := by
  have H := Aside0.mk (fun w => do_any n 8000000 r 3 hn (by unfold I64; omega) hr w)
  clear hr hn
  generalize mdo n 8000000 r 3 = V at *
  go_enter Try.func20, Try.ntmps20
  go_wp2_with fail
  refine (H.out _).mono ?_
  rintro e w1 ⟨rfl, hB⟩
  go_wp2
  go_ret
  exact ⟨rfl, hB⟩
theorem ticks_any (r n : Int) (hr : I64 r) (hn : I64 n) (w : World) : Calls Try.prog 14 #[.int .i64 r, .int .i64 n] w fun e w' => e = .returned (.int .i64 (mdo n 8000000 r 3)) ∧ Below w.heap.size w w' := by
  have H := Aside0.mk (fun w => rticks_any r n hr hn w)
  clear hr hn
  generalize mdo n 8000000 r 3 = V at *
  have hmf : ∀ (fn : Fn) (first cap : Array Value) (w : World), (Instr.makeFunc fn first cap).run Try.prog w = .ok (.func fn first cap) w := fun _ _ _ _ => rfl
  go_enter Try.func14, Try.ntmps14
  go_wp2_with (first | (go_at_call 20; refine (H.out _).mono ?_; rintro e w1 ⟨rfl, hB⟩) | (go_at_call 19; go_in))
  go_ret
  exact ⟨rfl, hB⟩
end Go.Proofs.Ytaghgjmcjmjfiaa.B
