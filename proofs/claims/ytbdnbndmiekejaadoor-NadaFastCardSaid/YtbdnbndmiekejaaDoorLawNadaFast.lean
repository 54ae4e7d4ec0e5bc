/- The row of the law NadaFast: whatever comes in it answers true, and what came in reads as it did. No condition. -/
import Derived.Test.YtbdnbndmiekejaaDoorRows
import Derived.Test.YtbdnbndmiekejaaDoorVh
import Derived.Test.YtbdnbndmiekejaaDoorAg
import Derived.Test.YtbdnbndmiekejaaDoorRw
import Derived.WalkKit
import Derived.ProofKit
import Derived.OpenShut
import Derived.ShutString
import Derived.ChangeOld
import Derived.Below
import Derived.SizedLaws
import Derived.Lib.SmallJoins
import Derived.LaidMore
import Derived.Stop.Joined
import Derived.SevenTiedAt
import Derived.Test.YtbdnbndmiekejaaDoorTie
import Derived.Test.YtbdnbndmiekejaaDoorCards
import Derived.Lib.LaidTab
import Derived.Test.YtbdnbndmiekejaaDoorWSized
namespace Go.Proofs.YtbdnbndmiekejaaDoor.nadaFast
open Go.Joins Go.ChangeShapes Go.WideShapes Go.ChangeAt Go.RowKit Go.Deep Go.Proofs.YtbdnbndmiekejaaDoorW.PrintWords Go.Proofs.YtbdnbndmiekejaaDoorW.PrintLast Go.Proofs.YtbdnbndmiekejaaDoorW.PrintMore
open Go.Proofs.YtbdnbndmiekejaaDoor.B (open_agg5 open_agg6 open_agg7 open_agg8 open_agg9 open_slice_fields)
open Go.ChangeMaps (open_string shut_string)
set_option linter.unusedVariables false
theorem own : ownKnob Tryd.prog.godebug = none := by kernel_rfl
theorem laidOut : laidOutB Tryd.prog = true := by kernel_rfl
def IsRow (k : IntKind) (w : World) (a : Option Addr) (len cap : Nat) (zs : List Int) : Prop :=
  (a = none ∧ len = 0 ∧ cap = 0 ∧ zs = []) ∨
  ∃ x, a = some x ∧ len ≤ cap ∧ cap ≤ maxLen ∧ zs.length = cap ∧ (∀ i, i < zs.length → w.cell? (x.add i) = some (.int k (zs.getD i 0))) ∧ ∀ n ∈ zs, (Lit.int k n).wf = true
def laidL : List (String × DataW Unit) := [("flywheel/fixed.factors", Rows.laid_flywheel_fixed_factors), ("flywheel/nada.number", Rows.laid_flywheel_nada_number)]
theorem door_met (os : Os) (args : Array Value) : laidMetH Tryd.prog laidL ((World.doorLaid Tryd.prog 400 os).forCall (fun _ _ => 0) ⟨#[], args, []⟩).memory :=
  laidMetH_of_parts3 (fuel := 8) (laidMet_of_run' 8 (by kernel_rfl) (by kernel_rfl)) (by kernel_rfl) (by kernel_rfl)
theorem gN : Tryd.prog.globalNamed "flywheel/fixed.factors" = some 1 := by kernel_rfl
theorem gT : (Tryd.prog.globals[1]?).map (·.type) = some 51 := by kernel_rfl
theorem gN2 : Tryd.prog.globalNamed "flywheel/nada.number" = some 0 := by kernel_rfl
theorem gT2 : (Tryd.prog.globals[0]?).map (·.type) = some 44 := by kernel_rfl
theorem laid_tail {P : Program} {x : String × DataW Unit} {r : List (String × DataW Unit)} {w : World} (h : laidMet P (x :: r) w) : laidMet P r w := by
  obtain ⟨ps, hv, hnd, hrows⟩ := h
  obtain ⟨n, d⟩ := x
  obtain ⟨g, t, cs, fuel, p, q, _, _, _, _, hq, rfl⟩ := hv
  exact ⟨q, hq, List.Nodup.sublist (List.sublist_append_right _ _) hnd, fun b off hm => hrows b off (List.mem_append_right _ hm)⟩
theorem of_laid {W : World} (h : laidMetH Tryd.prog laidL W) : B.Tabs W := by
  rw [MakeChecks.laidMetH_plain _ _ _ (by kernel_rfl)] at h
  have hT := Lib.tabIs_of_head (k := .i64) (zs := [-2977044472, 1031764991, -206353000]) gN gT Tryd.underlying51 Tryd.underlying2 (by kernel_rfl) (by kernel_rfl) h
  have hN := Lib.tabIs_of_head (k := .i64) (zs := [50000, 10000, 500000, 100000, 100000, 3, 10000, 50000, 2, 20000]) gN2 gT2 Tryd.underlying44 Tryd.underlying2 (by kernel_rfl) (by kernel_rfl) (laid_tail h)
  exact ⟨⟨hT.cell gN 0 (by decide), hT.cell gN 1 (by decide), hT.cell gN 2 (by decide)⟩, hN.cell gN2 0 (by decide), hN.cell gN2 1 (by decide), hN.cell gN2 2 (by decide), hN.cell gN2 3 (by decide), hN.cell gN2 4 (by decide), hN.cell gN2 5 (by decide), hN.cell gN2 6 (by decide), hN.cell gN2 7 (by decide), hN.cell gN2 8 (by decide), hN.cell gN2 9 (by decide)⟩

set_option maxRecDepth 100000 in
theorem lifted (os : Os) (started : os.Started) (H : Type) (enc : TypeId × Value → H) :
    ReturnsInHanded {} Tryd.checked os 4 .any (fun w args => (Rows.nadaFastSpec.pre enc Tryd.prog Tryd.f4 [] false w args ∧ laidMetH Tryd.prog laidL w) ∧ sizedMet enc Tryd.prog Tryd.f4 (OpenSpec.ofChange Rows.nadaFastSpec) false w args) (Rows.nadaFastSpec.post enc Tryd.prog Tryd.f4 false true false false) := by
  refine returnsInHanded_of_change_and (C := Tryd.checked) (X := fun w _ => laidMetH Tryd.prog laidL w) (fun _ _ _ hh h => h.of_heap hh) own started (by kernel_rfl) Tryd.func4
    (ChangeSpec.witness_shaped (enc := enc) (C := Tryd.checked) (os := os) (X := fun w _ => laidMetH Tryd.prog laidL w) false (World.doorLaid Tryd.prog 400 os) #[.agg #[.int .i64 0, .int .i64 0, .int .i64 0], .int .u32 0, .int .u32 0] 8 rfl (World.shaped_of_RefB (by kernel_rfl) (by kernel_rfl)) (by kernel_rfl) (by kernel_rfl) (by kernel_rfl) (door_met os _)) ?_
  intro W base args ds gs before hval0 hW _ _ hL hsz0
  have hval : ∀ (j : Nat) t v, Tryd.f4.params[j]? = some t → args[j]? = some v → Value.okWide Tryd.prog W .any base t v := hval0
  have hW' := hW
  obtain ⟨p, q, hA0, hV, rfl, hfz, hnd⟩ := hW
  have hA : DataW.TrodAll enc Tryd.prog W 0 (fun _ => true) true Tryd.f4.params.toList args.toList ds p := hA0
  rw [Tryd.params4] at hA hval
  obtain ⟨v0, vs0, d0, ds0, p0, q0, hargs, rfl, rfl, h0, r0⟩ := trodAll_cons hA
  obtain ⟨v1, vs1, d1, ds1, p1, q1, rfl, rfl, rfl, h1, r1⟩ := trodAll_cons r0
  obtain ⟨v2, vs2, d2, ds2, p2, q2, rfl, rfl, rfl, h2, r2⟩ := trodAll_cons r1
  obtain ⟨rfl, rfl, rfl⟩ := trodAll_nil r2
  obtain rfl : args = #[v0, v1, v2] := by cases args; simp_all
  obtain ⟨rfl, rfl⟩ := trodVars_none hV
  have k0 := h0
  have lt0 : ∀ x ∈ p0, x.block < W.heap.size := by obtain ⟨m, hm⟩ := k0; exact DataW.trod_lt m _ _ _ hm
  obtain ⟨u0_0, u0_1, u0_2, y0_0, y0_1, y0_2, n0, rfl, _, _, t0_0, t0_1, t0_2⟩ := open_agg3 Tryd.underlying28 (by kernel_rfl) (by kernel_rfl) (hval 0 28 v0 rfl rfl) h0
  obtain ⟨a0_0, e0_0, _, w0_0⟩ := DataW.trod_int Tryd.underlying2 t0_0
  obtain rfl : u0_0 = .int .i64 a0_0 := by simpa using e0_0
  obtain ⟨a0_1, e0_1, _, w0_1⟩ := DataW.trod_int Tryd.underlying2 t0_1
  obtain rfl : u0_1 = .int .i64 a0_1 := by simpa using e0_1
  obtain ⟨a0_2, e0_2, _, w0_2⟩ := DataW.trod_int Tryd.underlying2 t0_2
  obtain rfl : u0_2 = .int .i64 a0_2 := by simpa using e0_2
  obtain ⟨a1, rfl, rfl, rfl, w1⟩ := open_int Tryd.underlying29 (hval 1 29 v1 rfl rfl) h1
  obtain ⟨a2, rfl, rfl, rfl, w2⟩ := open_int Tryd.underlying29 (hval 2 29 v2 rfl rfl) h2
  clear hA0 hval0 hsz0
  refine (B.fast_true a0_0 a0_1 a0_2 a1 a2 W (of_laid hL) (B.wf_i64 w0_0) (B.wf_i64 w0_1) (B.wf_i64 w0_2) (B.wf_u32 w1) (B.wf_u32 w2)).mono fun e W' ⟨he, bel⟩ => ?_
  subst he
  exact ⟨_, rfl, _, _, _, [], _, [], hW', trodAll_mk1 (shut_bool Tryd.underlying4 _), (trodAll_cons_mk (Below.trod laidOut (by kernel_rfl) (of_decide_eq_true (by kernel_rfl)) k0 bel lt0) (trodAll_cons_mk (shut_int Tryd.underlying29 w1) (trodAll_cons_mk (shut_int Tryd.underlying29 w2) trodAll_mk0))), rfl, bel.frame _, fun h => by cases h⟩
theorem over : Rows.nadaFastRow.holds Tryd.pinned (OpenSpec.ofChange Rows.nadaFastSpec) :=
  OpenClaim.holds_of_wide 4 Tryd.f4 rfl rfl rfl rfl rfl rfl rfl ⟨rfl, rfl, rfl, rfl, rfl⟩ rfl rfl rfl rfl rfl (by kernel_rfl) Tryd.func4 (by kernel_rfl)
    (of_decide_eq_true (by kernel_rfl)) (by unfold Func.isWrapper; first | (rw [if_pos (by decide +kernel)]; kernel_rfl) | (rw [if_neg (by decide +kernel)]; exact ⟨rfl, rfl⟩))
    (fun os started H enc _ => lifted os started H enc)
theorem proved : Rows.NadaFastSaid := over
theorem card : Rows.NadaFastCardSaid :=
  Claim7.holds_tied_plain_at .later [] [.data, .data] true (true, "bff46419b96093d7c956692796e69ef6c2e907f3c3427f199ebed39f96f60c73") false
    over (fun _ h => by cases h) (by kernel_rfl) (fun _ h => by cases h) nadaFast_row_tie rfl ⟨rfl, rfl⟩ (by kernel_rfl) rfl
    (fun f fn hf hfn => by
      obtain rfl : f = 4 := Option.some.inj ((show Tryd.prog.funcNamed "flywheel/flywheellaw23.NadaFast" = some 4 by kernel_rfl).symm.trans hf) |>.symm
      obtain rfl : fn = Tryd.f4 := (Option.some.inj (Tryd.func4.symm.trans hfn)).symm
      exact ⟨by kernel_rfl, fun j t ht => by
        rw [Tryd.params4] at ht
        have hm : t ∈ [28, 29, 29] := by simpa using Array.mem_of_getElem? ht
        have hall : ([28, 29, 29].all fun u => !Tryd.prog.wantsStandIn u) = true := by kernel_rfl
        exact (show Tryd.prog.wantsStandIn t = false by simpa using List.all_eq_true.1 hall t hm)⟩)
    (by kernel_rfl)
#print axioms card
end Go.Proofs.YtbdnbndmiekejaaDoor.nadaFast
namespace Go.Proofs.YtbdnbndmiekejaaDoor
/-- The row, under a short name, for the claim. -/
theorem nadaFast_holds : Rows.NadaFastCardSaid := nadaFast.card
end Go.Proofs.YtbdnbndmiekejaaDoor
