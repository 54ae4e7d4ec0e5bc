/-
  Ticks, bytes and rates: what the program's units compute.
-/
import Derived.Test.YthlgndgacmalaaaUn
namespace Go.Proofs.Ythlgndgacmalaaa.B
open Go.RowKit Go.Proofs.YthlgndgacmalaaaW.PrintWords Go.Proofs.YthlgndgacmalaaaW.PrintLast Go.Proofs.YthlgndgacmalaaaW.PrintMore
set_option linter.unusedVariables false
set_option linter.unusedSimpArgs false
theorem rbytes_any (r n : Int) (hr : I64 r) (hn : I64 n) (w : World) : Calls Try.prog 36 #[.int .i64 r, .int .i64 n] w fun e w' => e = .returned (.int .i64 (mdo r n 8000000 1)) ∧ Below w.heap.size w w' := by
  have H := Aside0.mk (fun w => do_any r n 8000000 1 hr hn (by unfold I64; omega) w)
  clear hr hn
  generalize mdo r n 8000000 1 = V at *
  go_enter Try.func36, Try.ntmps36
  go_wp2_with fail
  refine (H.out _).mono ?_
  rintro e w1 ⟨rfl, hB⟩
  go_wp2
  go_ret
  exact ⟨rfl, hB⟩
theorem bytes_any (r n : Int) (hr : I64 r) (hn : I64 n) (w : World) : Calls Try.prog 22 #[.int .i64 r, .int .i64 n] w fun e w' => e = .returned (.int .i64 (mdo r n 8000000 1)) ∧ Below w.heap.size w w' := by
  have H := Aside0.mk (fun w => rbytes_any r n hr hn w)
  clear hr hn
  generalize mdo r n 8000000 1 = V at *
  have hmf : ∀ (fn : Fn) (first cap : Array Value) (w : World), (Instr.makeFunc fn first cap).run Try.prog w = .ok (.func fn first cap) w := fun _ _ _ _ => rfl
  go_enter Try.func22, Try.ntmps22
  go_wp2_with (first | (go_at_call 36; refine (H.out _).mono ?_; rintro e w1 ⟨rfl, hB⟩) | (go_at_call 35; go_in))
  go_ret
  exact ⟨rfl, hB⟩
end Go.Proofs.Ythlgndgacmalaaa.B
