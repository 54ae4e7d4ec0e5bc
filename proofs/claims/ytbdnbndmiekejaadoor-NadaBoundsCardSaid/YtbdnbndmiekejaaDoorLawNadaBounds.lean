/- The row of the law NadaBounds: whatever comes in it answers true, and what came in reads as it did. No condition. -/
import Derived.Test.YtbdnbndmiekejaaDoorRows
import Derived.Test.YtbdnbndmiekejaaDoorVg
import Derived.Test.YtbdnbndmiekejaaDoorAg
import Derived.Test.YtbdnbndmiekejaaDoorRw
import Derived.WalkKit
import Derived.ProofKit
import Derived.OpenShut
import Derived.ShutString
import Derived.ChangeOld
import Derived.Below
import Derived.SizedLaws
import Derived.Lib.SmallJoins
import Derived.LaidMore
import Derived.Stop.Joined
import Derived.SevenTiedAt
import Derived.Test.YtbdnbndmiekejaaDoorTie
import Derived.Test.YtbdnbndmiekejaaDoorCards
import Derived.Lib.LaidTab
import Derived.Test.YtbdnbndmiekejaaDoorWSized
namespace Go.Proofs.YtbdnbndmiekejaaDoor.nadaBounds
open Go.Joins Go.ChangeShapes Go.WideShapes Go.ChangeAt Go.RowKit Go.Deep Go.Proofs.YtbdnbndmiekejaaDoorW.PrintWords Go.Proofs.YtbdnbndmiekejaaDoorW.PrintLast Go.Proofs.YtbdnbndmiekejaaDoorW.PrintMore
open Go.Proofs.YtbdnbndmiekejaaDoor.B (open_agg5 open_agg6 open_agg7 open_agg8 open_agg9 open_slice_fields)
open Go.ChangeMaps (open_string shut_string)
set_option linter.unusedVariables false
theorem own : ownKnob Tryd.prog.godebug = none := by kernel_rfl
theorem laidOut : laidOutB Tryd.prog = true := by kernel_rfl
def IsRow (k : IntKind) (w : World) (a : Option Addr) (len cap : Nat) (zs : List Int) : Prop :=
  (a = none ∧ len = 0 ∧ cap = 0 ∧ zs = []) ∨
  ∃ x, a = some x ∧ len ≤ cap ∧ cap ≤ maxLen ∧ zs.length = cap ∧ (∀ i, i < zs.length → w.cell? (x.add i) = some (.int k (zs.getD i 0))) ∧ ∀ n ∈ zs, (Lit.int k n).wf = true
def laidL : List (String × DataW Unit) := [("flywheel/fixed.factors", Rows.laid_flywheel_fixed_factors), ("flywheel/nada.number", Rows.laid_flywheel_nada_number)]
theorem door_met (os : Os) (args : Array Value) : laidMetH Tryd.prog laidL ((World.doorLaid Tryd.prog 400 os).forCall (fun _ _ => 0) ⟨#[], args, []⟩).memory :=
  laidMetH_of_parts3 (fuel := 8) (laidMet_of_run' 8 (by kernel_rfl) (by kernel_rfl)) (by kernel_rfl) (by kernel_rfl)
theorem gN : Tryd.prog.globalNamed "flywheel/fixed.factors" = some 1 := by kernel_rfl
theorem gT : (Tryd.prog.globals[1]?).map (·.type) = some 51 := by kernel_rfl
theorem gN2 : Tryd.prog.globalNamed "flywheel/nada.number" = some 0 := by kernel_rfl
theorem gT2 : (Tryd.prog.globals[0]?).map (·.type) = some 44 := by kernel_rfl
theorem laid_tail {P : Program} {x : String × DataW Unit} {r : List (String × DataW Unit)} {w : World} (h : laidMet P (x :: r) w) : laidMet P r w := by
  obtain ⟨ps, hv, hnd, hrows⟩ := h
  obtain ⟨n, d⟩ := x
  obtain ⟨g, t, cs, fuel, p, q, _, _, _, _, hq, rfl⟩ := hv
  exact ⟨q, hq, List.Nodup.sublist (List.sublist_append_right _ _) hnd, fun b off hm => hrows b off (List.mem_append_right _ hm)⟩
theorem of_laid {W : World} (h : laidMetH Tryd.prog laidL W) : B.Tabs W := by
  rw [MakeChecks.laidMetH_plain _ _ _ (by kernel_rfl)] at h
  have hT := Lib.tabIs_of_head (k := .i64) (zs := [-2977044472, 1031764991, -206353000]) gN gT Tryd.underlying51 Tryd.underlying2 (by kernel_rfl) (by kernel_rfl) h
  have hN := Lib.tabIs_of_head (k := .i64) (zs := [50000, 10000, 500000, 100000, 100000, 3, 10000, 50000, 2, 20000]) gN2 gT2 Tryd.underlying44 Tryd.underlying2 (by kernel_rfl) (by kernel_rfl) (laid_tail h)
  exact ⟨⟨hT.cell gN 0 (by decide), hT.cell gN 1 (by decide), hT.cell gN 2 (by decide)⟩, hN.cell gN2 0 (by decide), hN.cell gN2 1 (by decide), hN.cell gN2 2 (by decide), hN.cell gN2 3 (by decide), hN.cell gN2 4 (by decide), hN.cell gN2 5 (by decide), hN.cell gN2 6 (by decide), hN.cell gN2 7 (by decide), hN.cell gN2 8 (by decide), hN.cell gN2 9 (by decide)⟩

set_option maxRecDepth 100000 in
theorem lifted (os : Os) (started : os.Started) (H : Type) (enc : TypeId × Value → H) :
    ReturnsInHanded {} Tryd.checked os 5 .any (fun w args => (Rows.nadaBoundsSpec.pre enc Tryd.prog Tryd.f5 [] false w args ∧ laidMetH Tryd.prog laidL w) ∧ sizedMet enc Tryd.prog Tryd.f5 (OpenSpec.ofChange Rows.nadaBoundsSpec) false w args) (Rows.nadaBoundsSpec.post enc Tryd.prog Tryd.f5 false true false false) := by
  refine returnsInHanded_of_change_and (C := Tryd.checked) (X := fun w _ => laidMetH Tryd.prog laidL w) (fun _ _ _ hh h => h.of_heap hh) own started (by kernel_rfl) Tryd.func5
    (ChangeSpec.witness_shaped (enc := enc) (C := Tryd.checked) (os := os) (X := fun w _ => laidMetH Tryd.prog laidL w) false (World.doorLaid Tryd.prog 400 os) #[.agg #[.int .i64 0, .int .i64 0, .int .i64 0], .slice none 0 0] 8 rfl (World.shaped_of_RefB (by kernel_rfl) (by kernel_rfl)) (by kernel_rfl) (by kernel_rfl) (by kernel_rfl) (door_met os _)) ?_
  intro W base args ds gs before hval0 hW _ _ hL hsz0
  have hval : ∀ (j : Nat) t v, Tryd.f5.params[j]? = some t → args[j]? = some v → Value.okWide Tryd.prog W .any base t v := hval0
  have hW' := hW
  obtain ⟨p, q, hA0, hV, rfl, hfz, hnd⟩ := hW
  have hA : DataW.TrodAll enc Tryd.prog W 0 (fun _ => true) true Tryd.f5.params.toList args.toList ds p := hA0
  rw [Tryd.params5] at hA hval
  obtain ⟨v0, vs0, d0, ds0, p0, q0, hargs, rfl, rfl, h0, r0⟩ := trodAll_cons hA
  obtain ⟨v1, vs1, d1, ds1, p1, q1, rfl, rfl, rfl, h1, r1⟩ := trodAll_cons r0
  obtain ⟨rfl, rfl, rfl⟩ := trodAll_nil r1
  obtain rfl : args = #[v0, v1] := by cases args; simp_all
  obtain ⟨rfl, rfl⟩ := trodVars_none hV
  have k0 := h0
  have lt0 : ∀ x ∈ p0, x.block < W.heap.size := by obtain ⟨m, hm⟩ := k0; exact DataW.trod_lt m _ _ _ hm
  obtain ⟨u0_0, u0_1, u0_2, y0_0, y0_1, y0_2, n0, rfl, _, _, t0_0, t0_1, t0_2⟩ := open_agg3 Tryd.underlying28 (by kernel_rfl) (by kernel_rfl) (hval 0 28 v0 rfl rfl) h0
  obtain ⟨a0_0, e0_0, _, w0_0⟩ := DataW.trod_int Tryd.underlying2 t0_0
  obtain rfl : u0_0 = .int .i64 a0_0 := by simpa using e0_0
  obtain ⟨a0_1, e0_1, _, w0_1⟩ := DataW.trod_int Tryd.underlying2 t0_1
  obtain rfl : u0_1 = .int .i64 a0_1 := by simpa using e0_1
  obtain ⟨a0_2, e0_2, _, w0_2⟩ := DataW.trod_int Tryd.underlying2 t0_2
  obtain rfl : u0_2 = .int .i64 a0_2 := by simpa using e0_2
  obtain ⟨a1, len1, cap1, rfl⟩ := okWide_slice Tryd.underlying36 (hval 1 36 v1 rfl rfl)
  have k1 := h1
  have lt1 : ∀ x ∈ p1, x.block < W.heap.size := by obtain ⟨m, hm⟩ := k1; exact DataW.trod_lt m _ _ _ hm
  have s1 : len1 ≤ cap1 ∧ cap1 ≤ maxLen ∧ ∀ i, i < len1 → ∃ (ad : Addr) (c0 : Int) (c1 : Int) (c2 : Bool) (c3 : Int) (c4 : Int) (c5 : Int), a1 = some ad ∧ W.cell? (ad.add (i * 6 + 0)) = some (.int .i64 c0) ∧ B.I64 c0 ∧ W.cell? (ad.add (i * 6 + 1)) = some (.int .i64 c1) ∧ B.I64 c1 ∧ W.cell? (ad.add (i * 6 + 2)) = some (.bool c2) ∧ W.cell? (ad.add (i * 6 + 3)) = some (.int .i64 c3) ∧ B.I64 c3 ∧ W.cell? (ad.add (i * 6 + 4)) = some (.int .i64 c4) ∧ B.I64 c4 ∧ W.cell? (ad.add (i * 6 + 5)) = some (.int .i64 c5) ∧ B.I64 c5 := by
    obtain ⟨fuel, hf⟩ := h1
    rcases open_slice_fields Tryd.underlying36 Tryd.underlying39 (by kernel_rfl) (by kernel_rfl) hf with ⟨hcs, _⟩ | ⟨x, l, c, m, D, Pl, hcs, _, hl, hm, hmm, _, hfs⟩
    · simp [Value.cells] at hcs
      obtain ⟨rfl, rfl, rfl⟩ := hcs
      exact ⟨Nat.le_refl _, Nat.zero_le _, fun i hi => absurd hi (Nat.not_lt_zero _)⟩
    · simp [Value.cells] at hcs
      obtain ⟨rfl, rfl, rfl⟩ := hcs
      refine ⟨hl, hm, fun i hi => ?_⟩
      obtain ⟨ys, n, _, _, _, hfd⟩ := hfs i (by rw [hmm]; split <;> omega)
      obtain ⟨v0_, y0_, g0_, _, t0_⟩ := hfd 0 _ rfl
      obtain ⟨c0, e0_, _, q0_⟩ := DataW.trod_int Tryd.underlying2 t0_
      obtain rfl : v0_ = .int .i64 c0 := by simpa using e0_
      obtain ⟨v1_, y1_, g1_, _, t1_⟩ := hfd 1 _ rfl
      obtain ⟨c1, e1_, _, q1_⟩ := DataW.trod_int Tryd.underlying3 t1_
      obtain rfl : v1_ = .int .i64 c1 := by simpa using e1_
      obtain ⟨v2_, y2_, g2_, _, t2_⟩ := hfd 2 _ rfl
      obtain ⟨c2, e2_, _⟩ := DataW.trod_bool Tryd.underlying4 t2_
      obtain rfl : v2_ = .bool c2 := by simpa using e2_
      obtain ⟨v3_, y3_, g3_, _, t3_⟩ := hfd 3 _ rfl
      obtain ⟨c3, e3_, _, q3_⟩ := DataW.trod_int Tryd.underlying2 t3_
      obtain rfl : v3_ = .int .i64 c3 := by simpa using e3_
      obtain ⟨v4_, y4_, g4_, _, t4_⟩ := hfd 4 _ rfl
      obtain ⟨c4, e4_, _, q4_⟩ := DataW.trod_int Tryd.underlying2 t4_
      obtain rfl : v4_ = .int .i64 c4 := by simpa using e4_
      obtain ⟨v5_, y5_, g5_, _, t5_⟩ := hfd 5 _ rfl
      obtain ⟨c5, e5_, _, q5_⟩ := DataW.trod_int Tryd.underlying2 t5_
      obtain rfl : v5_ = .int .i64 c5 := by simpa using e5_
      exact ⟨x, c0, c1, c2, c3, c4, c5, rfl, g0_, (B.wf_i64 q0_), g1_, (B.wf_i64 q1_), g2_, g3_, (B.wf_i64 q3_), g4_, (B.wf_i64 q4_), g5_, (B.wf_i64 q5_)⟩
  clear hA0 hval0 hsz0
  refine (B.bounds_true a0_0 a0_1 a0_2 a1 len1 cap1 W (of_laid hL) (B.wf_i64 w0_0) (B.wf_i64 w0_1) (B.wf_i64 w0_2) s1.1 s1.2.1 s1.2.2).mono fun e W' ⟨he, bel⟩ => ?_
  subst he
  exact ⟨_, rfl, _, _, _, [], _, [], hW', trodAll_mk1 (shut_bool Tryd.underlying4 _), (trodAll_cons_mk (Below.trod laidOut (by kernel_rfl) (of_decide_eq_true (by kernel_rfl)) k0 bel lt0) (trodAll_cons_mk (Below.trod laidOut (by kernel_rfl) (of_decide_eq_true (by kernel_rfl)) k1 bel lt1) trodAll_mk0)), rfl, bel.frame _, fun h => by cases h⟩
theorem over : Rows.nadaBoundsRow.holds Tryd.pinned (OpenSpec.ofChange Rows.nadaBoundsSpec) :=
  OpenClaim.holds_of_wide 5 Tryd.f5 rfl rfl rfl rfl rfl rfl rfl ⟨rfl, rfl, rfl, rfl, rfl⟩ rfl rfl rfl rfl rfl (by kernel_rfl) Tryd.func5 (by kernel_rfl)
    (of_decide_eq_true (by kernel_rfl)) (by unfold Func.isWrapper; first | (rw [if_pos (by decide +kernel)]; kernel_rfl) | (rw [if_neg (by decide +kernel)]; exact ⟨rfl, rfl⟩))
    (fun os started H enc _ => lifted os started H enc)
theorem proved : Rows.NadaBoundsSaid := over
theorem card : Rows.NadaBoundsCardSaid :=
  Claim7.holds_tied_plain_at .later [] [.data, .data] true (true, "bff46419b96093d7c956692796e69ef6c2e907f3c3427f199ebed39f96f60c73") false
    over (fun _ h => by cases h) (by kernel_rfl) (fun _ h => by cases h) nadaBounds_row_tie rfl ⟨rfl, rfl⟩ (by kernel_rfl) rfl
    (fun f fn hf hfn => by
      obtain rfl : f = 5 := Option.some.inj ((show Tryd.prog.funcNamed "flywheel/flywheellaw23.NadaBounds" = some 5 by kernel_rfl).symm.trans hf) |>.symm
      obtain rfl : fn = Tryd.f5 := (Option.some.inj (Tryd.func5.symm.trans hfn)).symm
      exact ⟨by kernel_rfl, fun j t ht => by
        rw [Tryd.params5] at ht
        have hm : t ∈ [28, 36] := by simpa using Array.mem_of_getElem? ht
        have hall : ([28, 36].all fun u => !Tryd.prog.wantsStandIn u) = true := by kernel_rfl
        exact (show Tryd.prog.wantsStandIn t = false by simpa using List.all_eq_true.1 hall t hm)⟩)
    (by kernel_rfl)
#print axioms card
end Go.Proofs.YtbdnbndmiekejaaDoor.nadaBounds
namespace Go.Proofs.YtbdnbndmiekejaaDoor
/-- The row, under a short name, for the claim. -/
theorem nadaBounds_holds : Rows.NadaBoundsCardSaid := nadaBounds.card
end Go.Proofs.YtbdnbndmiekejaaDoor
