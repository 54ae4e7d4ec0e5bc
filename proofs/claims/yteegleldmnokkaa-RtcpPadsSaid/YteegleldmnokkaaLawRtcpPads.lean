/- The row of the law RtcpPads: whatever comes in it answers true, and what came in reads as it did. No condition. -/
import Derived.Test.YteegleldmnokkaaRows
import Derived.Test.YteegleldmnokkaaPd
import Derived.Test.YteegleldmnokkaaAg
import Derived.Test.YteegleldmnokkaaRw
import Derived.WalkKit
import Derived.ProofKit
import Derived.OpenShut
import Derived.ShutString
import Derived.ChangeOld
import Derived.Below
import Derived.SizedLaws
import Derived.Lib.SmallJoins
import Derived.Test.YteegleldmnokkaaWSized
namespace Go.Proofs.Yteegleldmnokkaa.rtcpPads
open Go.Joins Go.ChangeShapes Go.WideShapes Go.ChangeAt Go.RowKit Go.Deep Go.Proofs.YteegleldmnokkaaW.PrintWords Go.Proofs.YteegleldmnokkaaW.PrintLast Go.Proofs.YteegleldmnokkaaW.PrintMore
open Go.Proofs.Yteegleldmnokkaa.B (open_agg5 open_agg6 open_agg7 open_agg8 open_agg9 open_slice_fields)
open Go.ChangeMaps (open_string shut_string)
set_option linter.unusedVariables false
theorem own : ownKnob Try.prog.godebug = none := by kernel_rfl
theorem laidOut : laidOutB Try.prog = true := by kernel_rfl
def IsRow (k : IntKind) (w : World) (a : Option Addr) (len cap : Nat) (zs : List Int) : Prop :=
  (a = none ∧ len = 0 ∧ cap = 0 ∧ zs = []) ∨
  ∃ x, a = some x ∧ len ≤ cap ∧ cap ≤ maxLen ∧ zs.length = cap ∧ (∀ i, i < zs.length → w.cell? (x.add i) = some (.int k (zs.getD i 0))) ∧ ∀ n ∈ zs, (Lit.int k n).wf = true
set_option maxRecDepth 100000 in
theorem lifted (os : Os) (started : os.Started) (H : Type) (enc : TypeId × Value → H) :
    ReturnsInHanded {} Try.checked os 6 .any (Rows.rtcpPadsSpec.pre6 enc Try.prog Try.f6 Rows.rtcpPadsRow.domain false) (Rows.rtcpPadsSpec.post enc Try.prog Try.f6 false true false false) := by
  refine returnsInHanded_of_change_sized (C := Try.checked) own started (by kernel_rfl) Try.func6
    (ChangeSpec.witness6 (enc := enc) (C := Try.checked) false ⟨#[], #[.slice none 0 0, .int .i64 0], []⟩ 8 (by kernel_rfl) (by kernel_rfl) (by kernel_rfl) (by kernel_rfl)) ?_
  intro W base args ds gs before hval0 hW hcnd hsz0 _
  have hsz : (DataW.weightsEach Try.prog (Try.f6.params.toList ++ Rows.rtcpPadsSpec.plain.varTypes Try.prog) (ds ++ gs)).all (· ≤ reachBytes) = true := hsz0
  have hval : ∀ (j : Nat) t v, Try.f6.params[j]? = some t → args[j]? = some v → Value.okWide Try.prog W .any base t v := hval0
  have hW' := hW
  obtain ⟨p, q, hA0, hV, rfl, hfz, hnd⟩ := hW
  have hA : DataW.TrodAll enc Try.prog W 0 (fun _ => true) true Try.f6.params.toList args.toList ds p := hA0
  rw [Try.params6] at hA hval hsz
  obtain ⟨v0, vs0, d0, ds0, p0, q0, hargs, rfl, rfl, h0, r0⟩ := trodAll_cons hA
  obtain ⟨v1, vs1, d1, ds1, p1, q1, rfl, rfl, rfl, h1, r1⟩ := trodAll_cons r0
  obtain ⟨rfl, rfl, rfl⟩ := trodAll_nil r1
  obtain rfl : args = #[v0, v1] := by cases args; simp_all
  obtain ⟨rfl, rfl⟩ := trodVars_none hV
  obtain ⟨a0, len0, cap0, rfl⟩ := okWide_slice Try.underlying22 (hval 0 22 v0 rfl rfl)
  have k0 := h0
  have lt0 : ∀ x ∈ p0, x.block < W.heap.size := by obtain ⟨m, hm⟩ := k0; exact DataW.trod_lt m _ _ _ hm
  have s0 : len0 ≤ cap0 ∧ cap0 ≤ maxLen ∧ ∀ i, i < len0 → ∃ (ad : Addr) (c0 : Int) (c1 : Int) (c2 : ByteArray), a0 = some ad ∧ W.cell? (ad.add (i * 3 + 0)) = some (.int .i64 c0) ∧ B.I64 c0 ∧ W.cell? (ad.add (i * 3 + 1)) = some (.int .i64 c1) ∧ B.I64 c1 ∧ W.cell? (ad.add (i * 3 + 2)) = some (.string c2) ∧ c2.size ≤ maxLen := by
    obtain ⟨fuel, hf⟩ := h0
    rcases open_slice_fields Try.underlying22 Try.underlying40 (by kernel_rfl) (by kernel_rfl) hf with ⟨hcs, _⟩ | ⟨x, l, c, m, D, Pl, hcs, _, hl, hm, hmm, _, hfs⟩
    · simp [Value.cells] at hcs
      obtain ⟨rfl, rfl, rfl⟩ := hcs
      exact ⟨Nat.le_refl _, Nat.zero_le _, fun i hi => absurd hi (Nat.not_lt_zero _)⟩
    · simp [Value.cells] at hcs
      obtain ⟨rfl, rfl, rfl⟩ := hcs
      refine ⟨hl, hm, fun i hi => ?_⟩
      obtain ⟨ys, n, _, _, _, hfd⟩ := hfs i (by rw [hmm]; split <;> omega)
      obtain ⟨v0_, y0_, g0_, _, t0_⟩ := hfd 0 _ rfl
      obtain ⟨c0, e0_, _, q0_⟩ := DataW.trod_int Try.underlying3 t0_
      obtain rfl : v0_ = .int .i64 c0 := by simpa using e0_
      obtain ⟨v1_, y1_, g1_, _, t1_⟩ := hfd 1 _ rfl
      obtain ⟨c1, e1_, _, q1_⟩ := DataW.trod_int Try.underlying3 t1_
      obtain rfl : v1_ = .int .i64 c1 := by simpa using e1_
      obtain ⟨v2_, y2_, g2_, _, t2_⟩ := hfd 2 _ rfl
      obtain ⟨c2, e2_, _, q2_⟩ := DataW.trod_string Try.underlying9 t2_
      obtain rfl : v2_ = .string c2 := by simpa using e2_
      exact ⟨x, c0, c1, c2, rfl, g0_, (B.wf_i64 q0_), g1_, (B.wf_i64 q1_), g2_, q2_⟩
  obtain ⟨a1, rfl, rfl, rfl, w1⟩ := open_int Try.underlying3 (hval 1 3 v1 rfl rfl) h1
  clear hA0 hval0 hsz0 hsz
  refine (B.rtcpPads_any a0 len0 cap0 a1 W s0.1 s0.2.1 s0.2.2 (B.wf_i64 w1)).mono fun e W' ⟨he, bel⟩ => ?_
  subst he
  exact ⟨_, rfl, _, _, _, [], _, [], hW', trodAll_mk1 (shut_bool Try.underlying4 _), (trodAll_cons_mk (Below.trod laidOut (by kernel_rfl) (of_decide_eq_true (by kernel_rfl)) k0 bel lt0) (trodAll_cons_mk (shut_int Try.underlying3 w1) trodAll_mk0)), rfl, bel.frame _, fun h => by cases h⟩
theorem over : Rows.rtcpPadsRow.holds Try.pinned (OpenSpec.ofChange Rows.rtcpPadsSpec) :=
  OpenClaim.holds_of_wide 6 Try.f6 rfl rfl rfl rfl rfl rfl rfl ⟨rfl, rfl, rfl, rfl, rfl⟩ rfl rfl rfl rfl rfl (by kernel_rfl) Try.func6 (by kernel_rfl)
    (of_decide_eq_true (by kernel_rfl)) (by unfold Func.isWrapper; first | (rw [if_pos (by decide +kernel)]; kernel_rfl) | (rw [if_neg (by decide +kernel)]; exact ⟨rfl, rfl⟩))
    (fun os started H enc _ => lifted os started H enc)
theorem proved : Rows.RtcpPadsSaid := over
#print axioms proved
end Go.Proofs.Yteegleldmnokkaa.rtcpPads
namespace Go.Proofs.Yteegleldmnokkaa
/-- The row, under a short name, for the claim. -/
theorem rtcpPads_holds : Rows.RtcpPadsSaid := rtcpPads.proved
end Go.Proofs.Yteegleldmnokkaa
