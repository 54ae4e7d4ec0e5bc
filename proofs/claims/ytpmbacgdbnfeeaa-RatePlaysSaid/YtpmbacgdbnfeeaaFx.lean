/-
  Numbers with 32 bits behind the point: what the program's fixed computes.
-/
import Derived.Test.YtpmbacgdbnfeeaaMo
import Derived.Test.YtpmbacgdbnfeeaaSm
namespace Go.Proofs.Ytpmbacgdbnfeeaa.B
open Go.RowKit Go.Proofs.YtpmbacgdbnfeeaaW.PrintWords Go.Proofs.YtpmbacgdbnfeeaaW.PrintLast Go.Proofs.YtpmbacgdbnfeeaaW.PrintMore
set_option linter.unusedVariables false
set_option linter.unusedSimpArgs false
theorem i64_const {n : Int} (h0 : -9223372036854775808 ≤ n) (h1 : n ≤ 9223372036854775807) : I64 n := ⟨h0, h1⟩
theorem hold_i64 (n : Int) : I64 (hold n) := hold_range n
end Go.Proofs.Ytpmbacgdbnfeeaa.B
