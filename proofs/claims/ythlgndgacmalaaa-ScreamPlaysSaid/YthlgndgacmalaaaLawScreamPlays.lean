/- The row of the law ScreamPlays: whatever comes in it answers true, and what came in reads as it did. No condition. -/
import Derived.Test.YthlgndgacmalaaaRows
import Derived.Test.YthlgndgacmalaaaSr
import Derived.Test.YthlgndgacmalaaaAg
import Derived.Test.YthlgndgacmalaaaRw
import Derived.WalkKit
import Derived.ProofKit
import Derived.OpenShut
import Derived.ShutString
import Derived.ChangeOld
import Derived.Below
import Derived.SizedLaws
import Derived.Lib.SmallJoins
import Derived.Test.YthlgndgacmalaaaWSized
namespace Go.Proofs.Ythlgndgacmalaaa.screamPlays
open Go.Joins Go.ChangeShapes Go.WideShapes Go.ChangeAt Go.RowKit Go.Deep Go.Proofs.YthlgndgacmalaaaW.PrintWords Go.Proofs.YthlgndgacmalaaaW.PrintLast Go.Proofs.YthlgndgacmalaaaW.PrintMore
open Go.Proofs.Ythlgndgacmalaaa.B (open_agg5 open_agg6 open_agg7 open_agg8 open_agg9 open_slice_fields)
open Go.ChangeMaps (open_string shut_string)
set_option linter.unusedVariables false
theorem own : ownKnob Try.prog.godebug = none := by kernel_rfl
theorem laidOut : laidOutB Try.prog = true := by kernel_rfl
def IsRow (k : IntKind) (w : World) (a : Option Addr) (len cap : Nat) (zs : List Int) : Prop :=
  (a = none ∧ len = 0 ∧ cap = 0 ∧ zs = []) ∨
  ∃ x, a = some x ∧ len ≤ cap ∧ cap ≤ maxLen ∧ zs.length = cap ∧ (∀ i, i < zs.length → w.cell? (x.add i) = some (.int k (zs.getD i 0))) ∧ ∀ n ∈ zs, (Lit.int k n).wf = true
set_option maxRecDepth 100000 in
theorem lifted (os : Os) (started : os.Started) (H : Type) (enc : TypeId × Value → H) :
    ReturnsInHanded {} Try.checked os 6 .any (Rows.screamPlaysSpec.pre6 enc Try.prog Try.f6 Rows.screamPlaysRow.domain false) (Rows.screamPlaysSpec.post enc Try.prog Try.f6 false true false false) := by
  refine returnsInHanded_of_change_sized (C := Try.checked) own started (by kernel_rfl) Try.func6
    (ChangeSpec.witness6 (enc := enc) (C := Try.checked) false ⟨#[], #[.agg #[.int .i64 0, .int .i64 0, .int .i64 0], .slice none 0 0], []⟩ 8 (by kernel_rfl) (by kernel_rfl) (by kernel_rfl) (by kernel_rfl)) ?_
  intro W base args ds gs before hval0 hW hcnd hsz0 _
  have hsz : (DataW.weightsEach Try.prog (Try.f6.params.toList ++ Rows.screamPlaysSpec.plain.varTypes Try.prog) (ds ++ gs)).all (· ≤ reachBytes) = true := hsz0
  have hval : ∀ (j : Nat) t v, Try.f6.params[j]? = some t → args[j]? = some v → Value.okWide Try.prog W .any base t v := hval0
  have hW' := hW
  obtain ⟨p, q, hA0, hV, rfl, hfz, hnd⟩ := hW
  have hA : DataW.TrodAll enc Try.prog W 0 (fun _ => true) true Try.f6.params.toList args.toList ds p := hA0
  rw [Try.params6] at hA hval hsz
  obtain ⟨v0, vs0, d0, ds0, p0, q0, hargs, rfl, rfl, h0, r0⟩ := trodAll_cons hA
  obtain ⟨v1, vs1, d1, ds1, p1, q1, rfl, rfl, rfl, h1, r1⟩ := trodAll_cons r0
  obtain ⟨rfl, rfl, rfl⟩ := trodAll_nil r1
  obtain rfl : args = #[v0, v1] := by cases args; simp_all
  obtain ⟨rfl, rfl⟩ := trodVars_none hV
  have k0 := h0
  have lt0 : ∀ x ∈ p0, x.block < W.heap.size := by obtain ⟨m, hm⟩ := k0; exact DataW.trod_lt m _ _ _ hm
  obtain ⟨u0_0, u0_1, u0_2, y0_0, y0_1, y0_2, n0, rfl, _, _, t0_0, t0_1, t0_2⟩ := open_agg3 Try.underlying23 (by kernel_rfl) (by kernel_rfl) (hval 0 23 v0 rfl rfl) h0
  obtain ⟨a0_0, e0_0, _, w0_0⟩ := DataW.trod_int Try.underlying2 t0_0
  obtain rfl : u0_0 = .int .i64 a0_0 := by simpa using e0_0
  obtain ⟨a0_1, e0_1, _, w0_1⟩ := DataW.trod_int Try.underlying2 t0_1
  obtain rfl : u0_1 = .int .i64 a0_1 := by simpa using e0_1
  obtain ⟨a0_2, e0_2, _, w0_2⟩ := DataW.trod_int Try.underlying2 t0_2
  obtain rfl : u0_2 = .int .i64 a0_2 := by simpa using e0_2
  obtain ⟨a1, len1, cap1, rfl⟩ := okWide_slice Try.underlying24 (hval 1 24 v1 rfl rfl)
  have k1 := h1
  have lt1 : ∀ x ∈ p1, x.block < W.heap.size := by obtain ⟨m, hm⟩ := k1; exact DataW.trod_lt m _ _ _ hm
  have s1 : len1 ≤ cap1 ∧ cap1 ≤ maxLen ∧ ∀ i, i < len1 → ∃ (ad : Addr) (c0 : Int) (c1 : Int) (c2 : Int) (c3 : Bool) (c4 : Bool) (c5 : Int) (c6 : Int), a1 = some ad ∧ W.cell? (ad.add (i * 7 + 0)) = some (.int .i64 c0) ∧ B.I64 c0 ∧ W.cell? (ad.add (i * 7 + 1)) = some (.int .i64 c1) ∧ B.I64 c1 ∧ W.cell? (ad.add (i * 7 + 2)) = some (.int .i64 c2) ∧ B.I64 c2 ∧ W.cell? (ad.add (i * 7 + 3)) = some (.bool c3) ∧ W.cell? (ad.add (i * 7 + 4)) = some (.bool c4) ∧ W.cell? (ad.add (i * 7 + 5)) = some (.int .i64 c5) ∧ B.I64 c5 ∧ W.cell? (ad.add (i * 7 + 6)) = some (.int .i64 c6) ∧ B.I64 c6 := by
    obtain ⟨fuel, hf⟩ := h1
    rcases open_slice_fields Try.underlying24 Try.underlying32 (by kernel_rfl) (by kernel_rfl) hf with ⟨hcs, _⟩ | ⟨x, l, c, m, D, Pl, hcs, _, hl, hm, hmm, _, hfs⟩
    · simp [Value.cells] at hcs
      obtain ⟨rfl, rfl, rfl⟩ := hcs
      exact ⟨Nat.le_refl _, Nat.zero_le _, fun i hi => absurd hi (Nat.not_lt_zero _)⟩
    · simp [Value.cells] at hcs
      obtain ⟨rfl, rfl, rfl⟩ := hcs
      refine ⟨hl, hm, fun i hi => ?_⟩
      obtain ⟨ys, n, _, _, _, hfd⟩ := hfs i (by rw [hmm]; split <;> omega)
      obtain ⟨v0_, y0_, g0_, _, t0_⟩ := hfd 0 _ rfl
      obtain ⟨c0, e0_, _, q0_⟩ := DataW.trod_int Try.underlying3 t0_
      obtain rfl : v0_ = .int .i64 c0 := by simpa using e0_
      obtain ⟨v1_, y1_, g1_, _, t1_⟩ := hfd 1 _ rfl
      obtain ⟨c1, e1_, _, q1_⟩ := DataW.trod_int Try.underlying2 t1_
      obtain rfl : v1_ = .int .i64 c1 := by simpa using e1_
      obtain ⟨v2_, y2_, g2_, _, t2_⟩ := hfd 2 _ rfl
      obtain ⟨c2, e2_, _, q2_⟩ := DataW.trod_int Try.underlying2 t2_
      obtain rfl : v2_ = .int .i64 c2 := by simpa using e2_
      obtain ⟨v3_, y3_, g3_, _, t3_⟩ := hfd 3 _ rfl
      obtain ⟨c3, e3_, _⟩ := DataW.trod_bool Try.underlying4 t3_
      obtain rfl : v3_ = .bool c3 := by simpa using e3_
      obtain ⟨v4_, y4_, g4_, _, t4_⟩ := hfd 4 _ rfl
      obtain ⟨c4, e4_, _⟩ := DataW.trod_bool Try.underlying4 t4_
      obtain rfl : v4_ = .bool c4 := by simpa using e4_
      obtain ⟨v5_, y5_, g5_, _, t5_⟩ := hfd 5 _ rfl
      obtain ⟨c5, e5_, _, q5_⟩ := DataW.trod_int Try.underlying2 t5_
      obtain rfl : v5_ = .int .i64 c5 := by simpa using e5_
      obtain ⟨v6_, y6_, g6_, _, t6_⟩ := hfd 6 _ rfl
      obtain ⟨c6, e6_, _, q6_⟩ := DataW.trod_int Try.underlying2 t6_
      obtain rfl : v6_ = .int .i64 c6 := by simpa using e6_
      exact ⟨x, c0, c1, c2, c3, c4, c5, c6, rfl, g0_, (B.wf_i64 q0_), g1_, (B.wf_i64 q1_), g2_, (B.wf_i64 q2_), g3_, g4_, g5_, (B.wf_i64 q5_), g6_, (B.wf_i64 q6_)⟩
  clear hA0 hval0 hsz0 hsz
  refine (B.plays_true a0_0 a0_1 a0_2 a1 len1 cap1 W (B.wf_i64 w0_0) (B.wf_i64 w0_1) (B.wf_i64 w0_2) s1.1 s1.2.1 s1.2.2).mono fun e W' ⟨he, bel⟩ => ?_
  subst he
  exact ⟨_, rfl, _, _, _, [], _, [], hW', trodAll_mk1 (shut_bool Try.underlying4 _), (trodAll_cons_mk (Below.trod laidOut (by kernel_rfl) (of_decide_eq_true (by kernel_rfl)) k0 bel lt0) (trodAll_cons_mk (Below.trod laidOut (by kernel_rfl) (of_decide_eq_true (by kernel_rfl)) k1 bel lt1) trodAll_mk0)), rfl, bel.frame _, fun h => by cases h⟩
theorem over : Rows.screamPlaysRow.holds Try.pinned (OpenSpec.ofChange Rows.screamPlaysSpec) :=
  OpenClaim.holds_of_wide 6 Try.f6 rfl rfl rfl rfl rfl rfl rfl ⟨rfl, rfl, rfl, rfl, rfl⟩ rfl rfl rfl rfl rfl (by kernel_rfl) Try.func6 (by kernel_rfl)
    (of_decide_eq_true (by kernel_rfl)) (by unfold Func.isWrapper; first | (rw [if_pos (by decide +kernel)]; kernel_rfl) | (rw [if_neg (by decide +kernel)]; exact ⟨rfl, rfl⟩))
    (fun os started H enc _ => lifted os started H enc)
theorem proved : Rows.ScreamPlaysSaid := over
#print axioms proved
end Go.Proofs.Ythlgndgacmalaaa.screamPlays
namespace Go.Proofs.Ythlgndgacmalaaa
/-- The row, under a short name, for the claim. -/
theorem screamPlays_holds : Rows.ScreamPlaysSaid := screamPlays.proved
end Go.Proofs.Ythlgndgacmalaaa
