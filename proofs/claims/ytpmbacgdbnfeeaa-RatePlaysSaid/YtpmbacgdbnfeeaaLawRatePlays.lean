/- The row of the law RatePlays: whatever comes in it answers true, and what came in reads as it did. No condition. -/
import Derived.Test.YtpmbacgdbnfeeaaRows
import Derived.Test.YtpmbacgdbnfeeaaRM
import Derived.Test.YtpmbacgdbnfeeaaAg
import Derived.Test.YtpmbacgdbnfeeaaRw
import Derived.WalkKit
import Derived.ProofKit
import Derived.OpenShut
import Derived.ShutString
import Derived.ChangeOld
import Derived.Below
import Derived.SizedLaws
import Derived.Lib.SmallJoins
import Derived.Test.YtpmbacgdbnfeeaaWSized
namespace Go.Proofs.Ytpmbacgdbnfeeaa.ratePlays
open Go.Joins Go.ChangeShapes Go.WideShapes Go.ChangeAt Go.RowKit Go.Deep Go.Proofs.YtpmbacgdbnfeeaaW.PrintWords Go.Proofs.YtpmbacgdbnfeeaaW.PrintLast Go.Proofs.YtpmbacgdbnfeeaaW.PrintMore
open Go.Proofs.Ytpmbacgdbnfeeaa.B (open_agg5 open_agg6 open_agg7 open_agg8 open_agg9 open_slice_fields)
open Go.ChangeMaps (open_string shut_string)
set_option linter.unusedVariables false
theorem own : ownKnob Try.prog.godebug = none := by kernel_rfl
theorem laidOut : laidOutB Try.prog = true := by kernel_rfl
def IsRow (k : IntKind) (w : World) (a : Option Addr) (len cap : Nat) (zs : List Int) : Prop :=
  (a = none ∧ len = 0 ∧ cap = 0 ∧ zs = []) ∨
  ∃ x, a = some x ∧ len ≤ cap ∧ cap ≤ maxLen ∧ zs.length = cap ∧ (∀ i, i < zs.length → w.cell? (x.add i) = some (.int k (zs.getD i 0))) ∧ ∀ n ∈ zs, (Lit.int k n).wf = true
set_option maxRecDepth 100000 in
theorem lifted (os : Os) (started : os.Started) (H : Type) (enc : TypeId × Value → H) :
    ReturnsInHanded {} Try.checked os 3 .any (Rows.ratePlaysSpec.pre6 enc Try.prog Try.f3 Rows.ratePlaysRow.domain false) (Rows.ratePlaysSpec.post enc Try.prog Try.f3 false true false false) := by
  refine returnsInHanded_of_change_sized (C := Try.checked) own started (by kernel_rfl) Try.func3
    (ChangeSpec.witness6 (enc := enc) (C := Try.checked) false ⟨#[], #[.int .i64 0, .slice none 0 0], []⟩ 8 (by kernel_rfl) (by kernel_rfl) (by kernel_rfl) (by kernel_rfl)) ?_
  intro W base args ds gs before hval0 hW hcnd hsz0 _
  have hsz : (DataW.weightsEach Try.prog (Try.f3.params.toList ++ Rows.ratePlaysSpec.plain.varTypes Try.prog) (ds ++ gs)).all (· ≤ reachBytes) = true := hsz0
  have hval : ∀ (j : Nat) t v, Try.f3.params[j]? = some t → args[j]? = some v → Value.okWide Try.prog W .any base t v := hval0
  have hW' := hW
  obtain ⟨p, q, hA0, hV, rfl, hfz, hnd⟩ := hW
  have hA : DataW.TrodAll enc Try.prog W 0 (fun _ => true) true Try.f3.params.toList args.toList ds p := hA0
  rw [Try.params3] at hA hval hsz
  obtain ⟨v0, vs0, d0, ds0, p0, q0, hargs, rfl, rfl, h0, r0⟩ := trodAll_cons hA
  obtain ⟨v1, vs1, d1, ds1, p1, q1, rfl, rfl, rfl, h1, r1⟩ := trodAll_cons r0
  obtain ⟨rfl, rfl, rfl⟩ := trodAll_nil r1
  obtain rfl : args = #[v0, v1] := by cases args; simp_all
  obtain ⟨rfl, rfl⟩ := trodVars_none hV
  obtain ⟨a0, rfl, rfl, rfl, w0⟩ := open_int Try.underlying2 (hval 0 2 v0 rfl rfl) h0
  obtain ⟨a1, len1, cap1, rfl⟩ := okWide_slice Try.underlying22 (hval 1 22 v1 rfl rfl)
  have k1 := h1
  have lt1 : ∀ x ∈ p1, x.block < W.heap.size := by obtain ⟨m, hm⟩ := k1; exact DataW.trod_lt m _ _ _ hm
  have s1 : len1 ≤ cap1 ∧ cap1 ≤ maxLen ∧ ∀ i, i < len1 → ∃ (ad : Addr) (c0 : Int) (c1 : Int) (c2 : Int), a1 = some ad ∧ W.cell? (ad.add (i * 3 + 0)) = some (.int .i64 c0) ∧ B.I64 c0 ∧ W.cell? (ad.add (i * 3 + 1)) = some (.int .i64 c1) ∧ B.I64 c1 ∧ W.cell? (ad.add (i * 3 + 2)) = some (.int .i64 c2) ∧ B.I64 c2 := by
    obtain ⟨fuel, hf⟩ := h1
    rcases open_slice_fields Try.underlying22 Try.underlying31 (by kernel_rfl) (by kernel_rfl) hf with ⟨hcs, _⟩ | ⟨x, l, c, m, D, Pl, hcs, _, hl, hm, hmm, _, hfs⟩
    · simp [Value.cells] at hcs
      obtain ⟨rfl, rfl, rfl⟩ := hcs
      exact ⟨Nat.le_refl _, Nat.zero_le _, fun i hi => absurd hi (Nat.not_lt_zero _)⟩
    · simp [Value.cells] at hcs
      obtain ⟨rfl, rfl, rfl⟩ := hcs
      refine ⟨hl, hm, fun i hi => ?_⟩
      obtain ⟨ys, n, _, _, _, hfd⟩ := hfs i (by rw [hmm]; split <;> omega)
      obtain ⟨v0_, y0_, g0_, _, t0_⟩ := hfd 0 _ rfl
      obtain ⟨c0, e0_, _, q0_⟩ := DataW.trod_int Try.underlying3 t0_
      obtain rfl : v0_ = .int .i64 c0 := by simpa using e0_
      obtain ⟨v1_, y1_, g1_, _, t1_⟩ := hfd 1 _ rfl
      obtain ⟨c1, e1_, _, q1_⟩ := DataW.trod_int Try.underlying3 t1_
      obtain rfl : v1_ = .int .i64 c1 := by simpa using e1_
      obtain ⟨v2_, y2_, g2_, _, t2_⟩ := hfd 2 _ rfl
      obtain ⟨c2, e2_, _, q2_⟩ := DataW.trod_int Try.underlying2 t2_
      obtain rfl : v2_ = .int .i64 c2 := by simpa using e2_
      exact ⟨x, c0, c1, c2, rfl, g0_, (B.wf_i64 q0_), g1_, (B.wf_i64 q1_), g2_, (B.wf_i64 q2_)⟩
  clear hA0 hval0 hsz0 hsz
  refine (B.plays_true a0 a1 len1 cap1 W (B.wf_i64 w0) s1.1 s1.2.1 s1.2.2).mono fun e W' ⟨he, bel⟩ => ?_
  subst he
  exact ⟨_, rfl, _, _, _, [], _, [], hW', trodAll_mk1 (shut_bool Try.underlying4 _), (trodAll_cons_mk (shut_int Try.underlying2 w0) (trodAll_cons_mk (Below.trod laidOut (by kernel_rfl) (of_decide_eq_true (by kernel_rfl)) k1 bel lt1) trodAll_mk0)), rfl, bel.frame _, fun h => by cases h⟩
theorem over : Rows.ratePlaysRow.holds Try.pinned (OpenSpec.ofChange Rows.ratePlaysSpec) :=
  OpenClaim.holds_of_wide 3 Try.f3 rfl rfl rfl rfl rfl rfl rfl ⟨rfl, rfl, rfl, rfl, rfl⟩ rfl rfl rfl rfl rfl (by kernel_rfl) Try.func3 (by kernel_rfl)
    (of_decide_eq_true (by kernel_rfl)) (by unfold Func.isWrapper; first | (rw [if_pos (by decide +kernel)]; kernel_rfl) | (rw [if_neg (by decide +kernel)]; exact ⟨rfl, rfl⟩))
    (fun os started H enc _ => lifted os started H enc)
theorem proved : Rows.RatePlaysSaid := over
#print axioms proved
end Go.Proofs.Ytpmbacgdbnfeeaa.ratePlays
namespace Go.Proofs.Ytpmbacgdbnfeeaa
/-- The row, under a short name, for the claim. -/
theorem ratePlays_holds : Rows.RatePlaysSaid := ratePlays.proved
end Go.Proofs.Ytpmbacgdbnfeeaa
