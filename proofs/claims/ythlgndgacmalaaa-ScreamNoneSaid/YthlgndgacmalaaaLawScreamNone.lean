/- The row of the law ScreamNone: whatever comes in it answers true, and what came in reads as it did. No condition. -/
import Derived.Test.YthlgndgacmalaaaRows
import Derived.Test.YthlgndgacmalaaaSk
import Derived.Test.YthlgndgacmalaaaAg
import Derived.Test.YthlgndgacmalaaaRw
import Derived.WalkKit
import Derived.ProofKit
import Derived.OpenShut
import Derived.ShutString
import Derived.ChangeOld
import Derived.Below
import Derived.SizedLaws
import Derived.Lib.SmallJoins
import Derived.Test.YthlgndgacmalaaaWSized
namespace Go.Proofs.Ythlgndgacmalaaa.screamNone
open Go.Joins Go.ChangeShapes Go.WideShapes Go.ChangeAt Go.RowKit Go.Deep Go.Proofs.YthlgndgacmalaaaW.PrintWords Go.Proofs.YthlgndgacmalaaaW.PrintLast Go.Proofs.YthlgndgacmalaaaW.PrintMore
open Go.Proofs.Ythlgndgacmalaaa.B (open_agg5 open_agg6 open_agg7 open_agg8 open_agg9 open_slice_fields)
open Go.ChangeMaps (open_string shut_string)
set_option linter.unusedVariables false
theorem own : ownKnob Try.prog.godebug = none := by kernel_rfl
theorem laidOut : laidOutB Try.prog = true := by kernel_rfl
def IsRow (k : IntKind) (w : World) (a : Option Addr) (len cap : Nat) (zs : List Int) : Prop :=
  (a = none ∧ len = 0 ∧ cap = 0 ∧ zs = []) ∨
  ∃ x, a = some x ∧ len ≤ cap ∧ cap ≤ maxLen ∧ zs.length = cap ∧ (∀ i, i < zs.length → w.cell? (x.add i) = some (.int k (zs.getD i 0))) ∧ ∀ n ∈ zs, (Lit.int k n).wf = true
set_option maxRecDepth 100000 in
theorem lifted (os : Os) (started : os.Started) (H : Type) (enc : TypeId × Value → H) :
    ReturnsInHanded {} Try.checked os 7 .any (Rows.screamNoneSpec.pre6 enc Try.prog Try.f7 Rows.screamNoneRow.domain false) (Rows.screamNoneSpec.post enc Try.prog Try.f7 false true false false) := by
  refine returnsInHanded_of_change_sized (C := Try.checked) own started (by kernel_rfl) Try.func7
    (ChangeSpec.witness6 (enc := enc) (C := Try.checked) false ⟨#[], #[.agg #[.int .i64 0, .int .i64 0, .int .i64 0, .bool false, .bool false, .int .i64 0, .int .i64 0]], []⟩ 8 (by kernel_rfl) (by kernel_rfl) (by kernel_rfl) (by kernel_rfl)) ?_
  intro W base args ds gs before hval0 hW hcnd hsz0 _
  have hsz : (DataW.weightsEach Try.prog (Try.f7.params.toList ++ Rows.screamNoneSpec.plain.varTypes Try.prog) (ds ++ gs)).all (· ≤ reachBytes) = true := hsz0
  have hval : ∀ (j : Nat) t v, Try.f7.params[j]? = some t → args[j]? = some v → Value.okWide Try.prog W .any base t v := hval0
  have hW' := hW
  obtain ⟨p, q, hA0, hV, rfl, hfz, hnd⟩ := hW
  have hA : DataW.TrodAll enc Try.prog W 0 (fun _ => true) true Try.f7.params.toList args.toList ds p := hA0
  rw [Try.params7] at hA hval hsz
  obtain ⟨v0, vs0, d0, ds0, p0, q0, hargs, rfl, rfl, h0, r0⟩ := trodAll_cons hA
  obtain ⟨rfl, rfl, rfl⟩ := trodAll_nil r0
  obtain rfl : args = #[v0] := by cases args; simp_all
  obtain ⟨rfl, rfl⟩ := trodVars_none hV
  have k0 := h0
  have lt0 : ∀ x ∈ p0, x.block < W.heap.size := by obtain ⟨m, hm⟩ := k0; exact DataW.trod_lt m _ _ _ hm
  obtain ⟨u0_0, u0_1, u0_2, u0_3, u0_4, u0_5, u0_6, y0_0, y0_1, y0_2, y0_3, y0_4, y0_5, y0_6, n0, rfl, _, _, t0_0, t0_1, t0_2, t0_3, t0_4, t0_5, t0_6⟩ := open_agg7 Try.underlying32 (by kernel_rfl) (by kernel_rfl) (hval 0 32 v0 rfl rfl) h0
  obtain ⟨a0_0, e0_0, _, w0_0⟩ := DataW.trod_int Try.underlying3 t0_0
  obtain rfl : u0_0 = .int .i64 a0_0 := by simpa using e0_0
  obtain ⟨a0_1, e0_1, _, w0_1⟩ := DataW.trod_int Try.underlying2 t0_1
  obtain rfl : u0_1 = .int .i64 a0_1 := by simpa using e0_1
  obtain ⟨a0_2, e0_2, _, w0_2⟩ := DataW.trod_int Try.underlying2 t0_2
  obtain rfl : u0_2 = .int .i64 a0_2 := by simpa using e0_2
  obtain ⟨a0_3, e0_3, _⟩ := DataW.trod_bool Try.underlying4 t0_3
  obtain rfl : u0_3 = .bool a0_3 := by simpa using e0_3
  obtain ⟨a0_4, e0_4, _⟩ := DataW.trod_bool Try.underlying4 t0_4
  obtain rfl : u0_4 = .bool a0_4 := by simpa using e0_4
  obtain ⟨a0_5, e0_5, _, w0_5⟩ := DataW.trod_int Try.underlying2 t0_5
  obtain rfl : u0_5 = .int .i64 a0_5 := by simpa using e0_5
  obtain ⟨a0_6, e0_6, _, w0_6⟩ := DataW.trod_int Try.underlying2 t0_6
  obtain rfl : u0_6 = .int .i64 a0_6 := by simpa using e0_6
  clear hA0 hval0 hsz0 hsz
  refine (B.none_true a0_0 a0_1 a0_2 a0_3 a0_4 a0_5 a0_6 W (B.wf_i64 w0_0) (B.wf_i64 w0_1) (B.wf_i64 w0_2) (B.wf_i64 w0_5) (B.wf_i64 w0_6)).mono fun e W' ⟨he, bel⟩ => ?_
  subst he
  exact ⟨_, rfl, _, _, _, [], _, [], hW', trodAll_mk1 (shut_bool Try.underlying4 _), (trodAll_cons_mk (Below.trod laidOut (by kernel_rfl) (of_decide_eq_true (by kernel_rfl)) k0 bel lt0) trodAll_mk0), rfl, bel.frame _, fun h => by cases h⟩
theorem over : Rows.screamNoneRow.holds Try.pinned (OpenSpec.ofChange Rows.screamNoneSpec) :=
  OpenClaim.holds_of_wide 7 Try.f7 rfl rfl rfl rfl rfl rfl rfl ⟨rfl, rfl, rfl, rfl, rfl⟩ rfl rfl rfl rfl rfl (by kernel_rfl) Try.func7 (by kernel_rfl)
    (of_decide_eq_true (by kernel_rfl)) (by unfold Func.isWrapper; first | (rw [if_pos (by decide +kernel)]; kernel_rfl) | (rw [if_neg (by decide +kernel)]; exact ⟨rfl, rfl⟩))
    (fun os started H enc _ => lifted os started H enc)
theorem proved : Rows.ScreamNoneSaid := over
#print axioms proved
end Go.Proofs.Ythlgndgacmalaaa.screamNone
namespace Go.Proofs.Ythlgndgacmalaaa
/-- The row, under a short name, for the claim. -/
theorem screamNone_holds : Rows.ScreamNoneSaid := screamNone.proved
end Go.Proofs.Ythlgndgacmalaaa
