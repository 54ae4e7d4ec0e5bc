/- What the law leans on, part 1 of 1: plain laws and walks of this session, and words that a tool of the kit printed for it; what nothing leans on is left out. -/
import Derived.Test.YtgakmnholegbgaaQ1d
import Derived.Test.YtgakmnholegbgaaRows
import Derived.Test.YtgakmnholegbgaaProg
import Derived.Below
import Derived.Deep.Draws
import Derived.Deep.AppendLies
import Derived.Maps.AppendAt
import Derived.OwnWalk
import Derived.Laws.BytesArg
import Derived.Laws.MakeOwn
import Derived.Laws.OwnMore
import Derived.Deep.OwnRows
import Derived.Tactics
import Derived.Lib.ConvBytes
import Derived.Laws.Slices
import Derived.WalkKit
import Derived.KernelRfl
import Derived.RowKit3
import Derived.Deep.LoopGhost
import Derived.Deep.QuietTactic
import Derived.BigQuiet
import Derived.WideLaws
import Derived.Deep.DeepCutAuto
import Derived.Deep.CutBlock
import Derived.Deep.RegionHeld3
import Derived.Laws.Rows
import Derived.Lib.AppendStr
import Derived.ArgAppend
import Derived.Laws.IdiomCopy
import Derived.OrdersHeld
import Derived.Laws.BitsLemmas
import Derived.RowKit
import Derived.Laws.StructEq
import Derived.BigRegion
import Derived.WalkMore
import Derived.ScopeJumps
import Derived.Outline
import Derived.Laws.Externs
import Derived.Lib.BitFns
import Derived.Deep.Light
import Derived.Lib.Mul64
import Derived.Lib.Strings
import Derived.Lib.Slices
import Derived.Lib.Small
import Derived.Lib.Walk
import Derived.Laws.Bits64b
import Derived.Lib.UnsafeStr
import Derived.Deep.RegionLaw
import Derived.Deep.RegionWith
import Derived.StillTailTactics
import Derived.Defers
import Derived.Recover
import Derived.Laws.Pointers
import Derived.WalkLawsBesides
import Derived.Laws.DeepStrings4
import Derived.Lib.SmallJoins
import Derived.Deep.Slices
import Derived.Deep.Fields
import Derived.ChangeSame
import Derived.WideKeyArr2
import Derived.ProofKit
import Derived.OpenShut
import Derived.ShutString
import Derived.ChangeOld
import Derived.SizedLaws
import Derived.ChangeSlices
section
namespace Go.Proofs.YtgakmnholegbgaaW.PrintLast
section
variable {P : Program} {ops : Array Oper} {Q : Exit → Act → World → Prop} {md : Region.Mode} {S : World → Prop} {ds : List Nat}
end
section
variable {P : Program} {ops : Array Oper} {Q : Exit → Act → World → Prop} {md : Region.Mode} {S : World → Prop} {ds : List Nat}
theorem three_ {i j k : Nat} {Ni Nj Nk : Option Tmp} {oi oj ok : Oper} {fuel : Nat} {l : Array Bool} {a : Act} {w : World} (li lj lk : Array Bool) (hi : ops[i]? = some oi) (hj : ops[j]? = some oj) (hk : ops[k]? = some ok) (hNi : oi.dst = Ni) (hNj : oj.dst = Nj) (hNk : ok.dst = Nk)
  (hc : (Region.ready md ops l == [i, j, k] && l.setIfInBounds i true == li && l.setIfInBounds j true == lj && l.setIfInBounds k true == lk) = true) (hdi : i ∉ ds) (hdj : j ∉ ds) (hdk : k ∉ ds)
  (h1 : ∀ K : Act → World → Prop, Shut (∀ a' w', S w' → (S w' → wpAnyLast P md ops Q S ds fuel li a' w') → K a' w') → if Region.wanted oi (yielded ops a.tmps) = true then Oper.wp P oi a w K Q else K (a.put Ni undef) w)
  (h2 : ∀ K : Act → World → Prop, Shut (∀ a' w', S w' → (S w' → wpAnyLast P md ops Q S ds fuel lj a' w') → K a' w') → if Region.wanted oj (yielded ops a.tmps) = true then Oper.wp P oj a w K Q else K (a.put Nj undef) w)
  (h3 : ∀ K : Act → World → Prop, Shut (∀ a' w', S w' → (S w' → wpAnyLast P md ops Q S ds fuel lk a' w') → K a' w') → if Region.wanted ok (yielded ops a.tmps) = true then Oper.wp P ok a w K Q else K (a.put Nk undef) w) :
  wpAnyLast P md ops Q S ds (fuel + 1) l a w := by
 subst hNi
 subst hNj
 subst hNk
 simp only [Bool.and_eq_true, beq_iff_eq] at hc
 obtain ⟨⟨⟨h4, h5⟩, h6⟩, h7⟩ := hc
 subst h5
 subst h6
 subst h7
 exact wpAnyLast_ready h4 (by simp) (AllReadyL.cons hi hdi (fun K hK => h1 K hK) (AllReadyL.cons hj hdj (fun K hK => h2 K hK) (AllReadyL.cons hk hdk (fun K hK => h3 K hK) AllReadyL.nil)))
end
end Go.Proofs.YtgakmnholegbgaaW.PrintLast
end
section
namespace Go.Proofs.Ytgakmnholegbgaa.B
open Go.RowKit
def U16 (a : Int) : Prop := 0 ≤ a ∧ a ≤ 65535
theorem wf_u16 {a : Int} (h : (Lit.int .u16 a).wf = true) : U16 a := by
 simp only [Lit.wf, Bool.and_eq_true, decide_eq_true_eq] at h
 exact ⟨Int.le_trans (show (0 : Int) ≤ IntKind.u16.min by decide) h.1, Int.le_trans h.2 (show IntKind.u16.max ≤ (65535 : Int) by decide)⟩
end Go.Proofs.Ytgakmnholegbgaa.B
end
section
namespace Go.Proofs.Ytgakmnholegbgaa.B
open Go.RowKit Go.Proofs.YtgakmnholegbgaaW.PrintWords
theorem toBits_snoc (n v : Nat) : toBits (n + 1) v = toBits n (v / 2) ++ [v.testBit 0] := by
 induction n generalizing v with
 | zero => simp [toBits]
 | succ n ih =>
  rw [toBits, ih, toBits, List.cons_append, Nat.testBit_succ]
theorem toBits_valOf (l : List Bool) : toBits l.length (valOf l) = l := by
 refine snoc_ind (p := fun l => toBits l.length (valOf l) = l) rfl (fun l b ih => ?_) l
 ·rw [List.length_append, List.length_singleton, toBits_snoc, valOf_snoc]
  have h1 : (2 * valOf l + b.toNat) / 2 = valOf l := by have : b.toNat ≤ 1 := Bool.toNat_le b; omega
  have h2 : (2 * valOf l + b.toNat).testBit 0 = b := by
   rw [Nat.testBit_zero]; cases b <;> simp <;> omega
  rw [h1, h2, ih]
end Go.Proofs.Ytgakmnholegbgaa.B
end
section
namespace Go.Proofs.Ytgakmnholegbgaa.B
open Go.RowKit Go.Proofs.YtgakmnholegbgaaW.PrintWords Go.Proofs.YtgakmnholegbgaaW.PrintLast Go.Proofs.YtgakmnholegbgaaW.PrintMore
set_option linter.unusedVariables false
set_option linter.unusedSimpArgs false
structure TiS (w0 w : World) (g1 gb gm : Nat) (f k S : Nat) : Prop where
 km : w.heap[gm]? = some (.cells #[.bool true, .int .i64 0, .int .i64 k, .bool true, .int .i64 3, .int .i64 8191, .bool false, .int .i64 0, .int .i64 0] 45 (0, 0))
 kb : w.heap[gb]? = some (.cells #[.int .u32 0, .int .i64 f, .slice (some ⟨gm, 0, none⟩) 3 3] 49 (0, 0))
 k1 : w.heap[g1]? = some (.cells #[.int .u32 0, .slice (some ⟨gb, 0, none⟩) 1 1, .int .u32 S] 53 (0, 0))
 bel : Below w0.heap.size w0 w
theorem TiS.below {w0 w w' : World} {g1 gb gm f k S : Nat} (h : TiS w0 w g1 gb gm f k S) (hb : Below w.heap.size w w') : TiS w0 w' g1 gb gm f k S :=
 ⟨(hb.block gm (blk_lt h.km)).trans h.km, (hb.block gb (blk_lt h.kb)).trans h.kb, (hb.block g1 (blk_lt h.k1)).trans h.k1, h.bel.trans (hb.mono h.bel.size)⟩
theorem TiS.alloc {w0 w : World} {g1 gb gm f k S : Nat} (h : TiS w0 w g1 gb gm f k S) (o : Obj) : TiS w0 (w.alloc o) g1 gb gm f k S := h.below ((Below.refl _ _).alloc (Nat.le_refl _) o)
structure TiI (w0 w : World) (g1 gb gm : Nat) (f k S g4 : Nat) : Prop where
 km : w.heap[gm]? = some (.cells #[.bool true, .int .i64 0, .int .i64 k, .bool true, .int .i64 3, .int .i64 8191, .bool false, .int .i64 0, .int .i64 0] 45 (0, 0))
 kb : w.heap[gb]? = some (.cells #[.int .u32 0, .int .i64 f, .slice (some ⟨gm, 0, none⟩) 3 3] 49 (0, 0))
 k1 : w.heap[g1]? = some (.cells #[.int .u32 0, .slice (some ⟨gb, 0, none⟩) 1 1, .int .u32 S] 53 (0, 0))
 bel : Below w0.heap.size w0 w
 kc : w.heap[g4]? = some (.cells #[.int .u32 0, .int .i64 f, .slice (some ⟨gm, 0, none⟩) 3 3] 49 (0, 0))
theorem TiI.below {w0 w w' : World} {g1 gb gm f k S g4 : Nat} (h : TiI w0 w g1 gb gm f k S g4) (hb : Below w.heap.size w w') : TiI w0 w' g1 gb gm f k S g4 :=
 ⟨(hb.block gm (blk_lt h.km)).trans h.km, (hb.block gb (blk_lt h.kb)).trans h.kb, (hb.block g1 (blk_lt h.k1)).trans h.k1, h.bel.trans (hb.mono h.bel.size), (hb.block g4 (blk_lt h.kc)).trans h.kc⟩
theorem TiI.alloc {w0 w : World} {g1 gb gm f k S g4 : Nat} (h : TiI w0 w g1 gb gm f k S g4) (o : Obj) : TiI w0 (w.alloc o) g1 gb gm f k S g4 := h.below ((Below.refl _ _).alloc (Nat.le_refl _) o)
theorem TiI.ts {w0 w : World} {g1 gb gm f k S g4 : Nat} (h : TiI w0 w g1 gb gm f k S g4) : TiS w0 w g1 gb gm f k S := ⟨h.km, h.kb, h.k1, h.bel⟩
theorem TiS.box (w : World) (gb gm f k S : Nat) (km : w.heap[gm]? = some (.cells #[.bool true, .int .i64 0, .int .i64 k, .bool true, .int .i64 3, .int .i64 8191, .bool false, .int .i64 0, .int .i64 0] 45 (0, 0))) (kb : w.heap[gb]? = some (.cells #[.int .u32 0, .int .i64 f, .slice (some ⟨gm, 0, none⟩) 3 3] 49 (0, 0))) : TiS w (w.alloc (.cells #[.int .u32 0, .slice (some ⟨gb, 0, none⟩) 1 1, .int .u32 S] 53)) w.heap.size gb gm f k S :=
 ⟨(Below.heap_alloc w (.cells #[.int .u32 0, .slice (some ⟨gb, 0, none⟩) 1 1, .int .u32 S] 53) gm (blk_lt km)).trans km, (Below.heap_alloc w (.cells #[.int .u32 0, .slice (some ⟨gb, 0, none⟩) 1 1, .int .u32 S] 53) gb (blk_lt kb)).trans kb, blk_new w _, (Below.refl w.heap.size w).alloc (Nat.le_refl _) _⟩
set_option maxHeartbeats 8000000 in
set_option maxRecDepth 100000 in
theorem times_good (w : World) (gb gm f k S : Nat) (hf : f ≤ 65535) (hk : k ≤ 8189) (km : w.heap[gm]? = some (.cells #[.bool true, .int .i64 0, .int .i64 k, .bool true, .int .i64 3, .int .i64 8191, .bool false, .int .i64 0, .int .i64 0] 45 (0, 0))) (kb : w.heap[gb]? = some (.cells #[.int .u32 0, .int .i64 f, .slice (some ⟨gm, 0, none⟩) 3 3] 49 (0, 0))) : Calls Try.prog 27 #[.agg #[.int .u32 0, .slice (some ⟨gb, 0, none⟩) 1 1, .int .u32 S]] w fun e w' => e = .returned (.bool true) ∧ Below w.heap.size w w' := by
 have HT := Aside0.mk (TiS.box w gb gm f k S km kb)
 have df0 : decide ((f : Int) < 0) = false := decide_eq_false (by omega)
 have df1 : decide (65535 < (f : Int)) = false := decide_eq_false (by omega)
 have dk0 : decide ((k : Int) < 0) = false := decide_eq_false (by omega)
 have dk1 : decide (8191 < (k : Int)) = false := decide_eq_false (by omega)
 clear km kb
 go_enter Try.func27, Try.ntmps27
 go_upto_region 1 with fail
 obtain ⟨g1, hg1⟩ : ∃ g, g = w.heap.size := ⟨_, rfl⟩
 rw [← hg1] at HT ⊢
 clear hg1
 generalize w.alloc (.cells #[.int .u32 0, .slice (some ⟨gb, 0, none⟩) 1 1, .int .u32 S] 53) = w1 at *
 have c0 := blk_cell HT.out.k1 0
 have c1 := blk_cell HT.out.k1 1
 have c2 := blk_cell HT.out.k1 2
 simp only [List.getElem?_toArray, List.getElem?_cons_zero, List.getElem?_cons_succ] at c0 c1 c2
 go_wp2_with fail
 go_loopw [3, 4, 5, 6] (fun v3 _ _ _ wr => (v3 = .int .i64 0 ∨ v3 = .int .i64 1) ∧ Aside0 (TiS w wr g1 gb gm f k S)) (fun v _ _ _ _ => 1 - (intOf v).toNat)
 case atStart => exact ⟨.inl rfl, HT⟩
 case round =>
  clear HT c0 c1 c2
  obtain ⟨rfl | rfl, HT⟩ := hrel
  ·have c1 := blk_cell HT.out.k1 1
   simp only [List.getElem?_toArray, List.getElem?_cons_zero, List.getElem?_cons_succ] at c1
   have b0 := blk_cell HT.out.kb 0
   have b1 := blk_cell HT.out.kb 1
   have b2 := blk_cell HT.out.kb 2
   simp only [List.getElem?_toArray, List.getElem?_cons_zero, List.getElem?_cons_succ] at b0 b1 b2
   go_upto_region 7 with fail
   have HI := Aside0.mk (show TiI w (wr.alloc (.cells #[.int .u32 0, .int .i64 f, .slice (some ⟨gm, 0, none⟩) 3 3] 49)) g1 gb gm f k S wr.heap.size from ⟨(HT.out.alloc _).km, (HT.out.alloc _).kb, (HT.out.alloc _).k1, (HT.out.alloc _).bel, blk_new wr _⟩)
   clear HT c1 b0 b1 b2
   obtain ⟨g4, hg4⟩ : ∃ g, g = wr.heap.size := ⟨_, rfl⟩
   rw [← hg4] at HI ⊢
   clear hg4
   generalize wr.alloc (.cells #[.int .u32 0, .int .i64 f, .slice (some ⟨gm, 0, none⟩) 3 3] 49) = w4 at *
   have b0 := blk_cell HI.out.kc 0
   have b1 := blk_cell HI.out.kc 1
   have b2 := blk_cell HI.out.kc 2
   simp only [List.getElem?_toArray, List.getElem?_cons_zero, List.getElem?_cons_succ] at b0 b1 b2
   go_wp2_with fail
   clear b0 b1 b2
   go_loopw [5, 6] (fun v5 _ wi => (v5 = .int .i64 0 ∨ v5 = .int .i64 1 ∨ v5 = .int .i64 2 ∨ v5 = .int .i64 3) ∧ Aside0 (TiI w wi g1 gb gm f k S g4)) (fun v _ _ => 3 - (intOf v).toNat)
   case atStart => exact ⟨.inl rfl, HI⟩
   case round =>
    clear HI
    obtain ⟨rfl | rfl | rfl | rfl, HT⟩ := hrel
    ·skip
     have b2 := blk_cell HT.out.kc 2
     simp only [List.getElem?_toArray, List.getElem?_cons_zero, List.getElem?_cons_succ] at b2
     have m0 := blk_cell HT.out.km 0
     have m1 := blk_cell HT.out.km 1
     have m2 := blk_cell HT.out.km 2
     simp only [List.getElem?_toArray, List.getElem?_cons_zero, List.getElem?_cons_succ] at m0 m1 m2
     go_upto_region 13 with fail
     have K6 := Aside0.mk (blk_new wr (.cells #[.bool true, .int .i64 0, .int .i64 k] 45))
     have HT2 := Aside0.mk (HT.out.alloc (.cells #[.bool true, .int .i64 0, .int .i64 k] 45))
     clear b2 m0 m1 m2
     obtain ⟨g6, hg6⟩ : ∃ g, g = wr.heap.size := ⟨_, rfl⟩
     rw [← hg6] at K6 ⊢
     clear hg6
     generalize wr.alloc (.cells #[.bool true, .int .i64 0, .int .i64 k] 45) = wj at *
     have n0 := blk_cell K6.out 0
     have n1 := blk_cell K6.out 1
     have n2 := blk_cell K6.out 2
     simp only [List.getElem?_toArray, List.getElem?_cons_zero, List.getElem?_cons_succ] at n0 n1 n2
     go_wp2_with fail
     exact ⟨⟨.inr (.inl rfl), HT2⟩, by simp [intOf]⟩
    ·skip
     have b2 := blk_cell HT.out.kc 2
     simp only [List.getElem?_toArray, List.getElem?_cons_zero, List.getElem?_cons_succ] at b2
     have m0 := blk_cell HT.out.km 3
     have m1 := blk_cell HT.out.km 4
     have m2 := blk_cell HT.out.km 5
     simp only [List.getElem?_toArray, List.getElem?_cons_zero, List.getElem?_cons_succ] at m0 m1 m2
     go_upto_region 13 with fail
     have K6 := Aside0.mk (blk_new wr (.cells #[.bool true, .int .i64 3, .int .i64 8191] 45))
     have HT2 := Aside0.mk (HT.out.alloc (.cells #[.bool true, .int .i64 3, .int .i64 8191] 45))
     clear b2 m0 m1 m2
     obtain ⟨g6, hg6⟩ : ∃ g, g = wr.heap.size := ⟨_, rfl⟩
     rw [← hg6] at K6 ⊢
     clear hg6
     generalize wr.alloc (.cells #[.bool true, .int .i64 3, .int .i64 8191] 45) = wj at *
     have n0 := blk_cell K6.out 0
     have n1 := blk_cell K6.out 1
     have n2 := blk_cell K6.out 2
     simp only [List.getElem?_toArray, List.getElem?_cons_zero, List.getElem?_cons_succ] at n0 n1 n2
     go_wp2_with fail
     exact ⟨⟨.inr (.inr (.inl rfl)), HT2⟩, by simp [intOf]⟩
    ·skip
     have b2 := blk_cell HT.out.kc 2
     simp only [List.getElem?_toArray, List.getElem?_cons_zero, List.getElem?_cons_succ] at b2
     have m0 := blk_cell HT.out.km 6
     have m1 := blk_cell HT.out.km 7
     have m2 := blk_cell HT.out.km 8
     simp only [List.getElem?_toArray, List.getElem?_cons_zero, List.getElem?_cons_succ] at m0 m1 m2
     go_upto_region 13 with fail
     have K6 := Aside0.mk (blk_new wr (.cells #[.bool false, .int .i64 0, .int .i64 0] 45))
     have HT2 := Aside0.mk (HT.out.alloc (.cells #[.bool false, .int .i64 0, .int .i64 0] 45))
     clear b2 m0 m1 m2
     obtain ⟨g6, hg6⟩ : ∃ g, g = wr.heap.size := ⟨_, rfl⟩
     rw [← hg6] at K6 ⊢
     clear hg6
     generalize wr.alloc (.cells #[.bool false, .int .i64 0, .int .i64 0] 45) = wj at *
     have n0 := blk_cell K6.out 0
     have n1 := blk_cell K6.out 1
     have n2 := blk_cell K6.out 2
     simp only [List.getElem?_toArray, List.getElem?_cons_zero, List.getElem?_cons_succ] at n0 n1 n2
     go_wp2_with fail
     exact ⟨⟨.inr (.inr (.inr rfl)), HT2⟩, by simp [intOf]⟩
    ·have b2 := blk_cell HT.out.kc 2
     simp only [List.getElem?_toArray, List.getElem?_cons_zero, List.getElem?_cons_succ] at b2
     go_wp2_with fail
     exact ⟨⟨.inr rfl, ⟨HT.out.ts⟩⟩, by simp [intOf]⟩
  ·have c1 := blk_cell HT.out.k1 1
   simp only [List.getElem?_toArray, List.getElem?_cons_zero, List.getElem?_cons_succ] at c1
   go_wp2_with fail
   go_ret
   exact ⟨rfl, HT.out.bel⟩
set_option maxHeartbeats 8000000 in
set_option maxRecDepth 100000 in
theorem times_size (w : World) (gb gm f k S : Nat) (km : w.heap[gm]? = some (.cells #[.bool true, .int .i64 0, .int .i64 k, .bool true, .int .i64 3, .int .i64 8191, .bool false, .int .i64 0, .int .i64 0] 45 (0, 0))) (kb : w.heap[gb]? = some (.cells #[.int .u32 0, .int .i64 f, .slice (some ⟨gm, 0, none⟩) 3 3] 49 (0, 0))) : Calls Try.prog 28 #[.agg #[.int .u32 0, .slice (some ⟨gb, 0, none⟩) 1 1, .int .u32 S]] w fun e w' => e = .returned (.int .i64 24) ∧ Below w.heap.size w w' := by
 have HT := Aside0.mk (TiS.box w gb gm f k S km kb)
 clear km kb
 go_enter Try.func28, Try.ntmps28
 go_upto_region 1 with fail
 obtain ⟨g1, hg1⟩ : ∃ g, g = w.heap.size := ⟨_, rfl⟩
 rw [← hg1] at HT ⊢
 clear hg1
 generalize w.alloc (.cells #[.int .u32 0, .slice (some ⟨gb, 0, none⟩) 1 1, .int .u32 S] 53) = w1 at *
 have c1 := blk_cell HT.out.k1 1
 simp only [List.getElem?_toArray, List.getElem?_cons_zero, List.getElem?_cons_succ] at c1
 have b2 := blk_cell HT.out.kb 2
 simp only [List.getElem?_toArray, List.getElem?_cons_zero, List.getElem?_cons_succ] at b2
 go_wp2_with fail
 go_loop [3, 4] (fun v3 v4 => (v4 = .int .i64 0 ∧ v3 = .int .i64 8) ∨ (v4 = .int .i64 1 ∧ v3 = .int .i64 24)) (fun _ v => 1 - (intOf v).toNat)
 case atStart => exact .inl ⟨rfl, rfl⟩
 case round =>
  rcases hrel with ⟨rfl, rfl⟩ | ⟨rfl, rfl⟩
  ·go_wp2_with fail
   exact ⟨.inr ⟨rfl, rfl⟩, by simp [intOf]⟩
  ·go_wp2_with fail
   go_ret
   exact ⟨rfl, HT.out.bel⟩
end Go.Proofs.Ytgakmnholegbgaa.B
end
section
namespace Go.Proofs.Ytgakmnholegbgaa.B
open Go.RowKit Go.Proofs.YtgakmnholegbgaaW.PrintWords Go.Proofs.YtgakmnholegbgaaW.PrintLast Go.Proofs.YtgakmnholegbgaaW.PrintMore
set_option linter.unusedVariables false
set_option linter.unusedSimpArgs false
structure KeptW (p E : Nat) (w w' : World) : Prop where
 size : w.heap.size ≤ w'.heap.size
 block : ∀ k, k < w.heap.size → k ≠ p → (w.shape? k).map (·.1) ≠ some E → w'.heap[k]? = w.heap[k]?
theorem KeptW.refl (p E : Nat) (w : World) : KeptW p E w w := ⟨Nat.le_refl _, fun _ _ _ _ => rfl⟩
theorem KeptW.drew {p E : Nat} {w w' : World} (h : KeptW p E w w') : KeptW p E w w'.drew := ⟨h.size, h.block⟩
theorem KeptW.trans {p E : Nat} {a b c : World} (h : KeptW p E a b) (k : KeptW p E b c) : KeptW p E a c :=
 ⟨Nat.le_trans h.size k.size, fun i hi hp hs => (k.block i (Nat.lt_of_lt_of_le hi h.size) hp (by rw [show b.shape? i = a.shape? i by unfold World.shape?; rw [h.block i hi hp hs]]; exact hs)).trans (h.block i hi hp hs)⟩
theorem KeptW.setp {p E : Nat} {a b : World} (h : KeptW p E a b) (i : Nat) (U : Value) : KeptW p E a (b.setCell ⟨p, i, none⟩ U) :=
 ⟨by simpa [World.setCell] using h.size, fun k hk hp hs => (Below.heap_setCell b ⟨p, i, none⟩ U k (fun e => hp (by first | exact e | exact e.symm))).trans (h.block k hk hp hs)⟩
theorem own_shape {w : World} {base : Nat} {e : TypeId} {sz : Nat} {v : Value} {n : Nat} {xs : List Value} (h : w.ownsRow base e sz v n xs) {k : Nat} (hk : v.ownBlock = some k) : (w.shape? k).map (·.1) = some e := ((RowV.of_own h).lt hk).2.2
theorem keptw_end {w : World} {p g E : Nat} (hg : (w.shape? g).map (·.1) = some E) (i : Nat) (V U : Value) : KeptW p E w ((w.setCell ⟨g, i, none⟩ V).setCell ⟨p, 1, none⟩ U).drew := by
 have h1 : KeptW p E w (w.setCell ⟨g, i, none⟩ V) := ⟨by simp [World.setCell], fun k hk hp hs => Below.heap_setCell w ⟨g, i, none⟩ V k (fun e => by
  have e' : k = g := by first | exact e | exact e.symm
  rw [e'] at hs
  exact hs hg)⟩
 exact (h1.setp 1 U).drew
set_option maxHeartbeats 1000000 in
theorem bit_oldK (w : World) (p : Nat) (l : List Bool) (b : Bool) (h : WrIs w p 123 5 l) (hn : l.length < 524288) (h8 : ¬ (l.length % 8 = 0)) :
  Calls Try.prog 56 #[.pointer (some ⟨p, 0, none⟩), .int .u8 (b.toNat : Int)] w fun e w' => e = .returned (.tuple #[]) ∧ WrIs w' p 123 5 (l ++ [b]) ∧ Below p w w' ∧ KeptW p 5 w w' := by
 obtain ⟨v, hp, HO⟩ := h
 have hlen : (packI l).length = (l.length + 7) / 8 := packI_length l
 obtain ⟨g, cap, rfl, hgb, hgl⟩ := HO.form (by omega)
 have hat := own_at HO ((l.length / 8 : Nat) : Int) (by omega) (by omega)
 rw [rd_packI l _ (by omega)] at hat
 simp only [Int.toNat_natCast] at hat
 obtain ⟨hx, hgf⟩ := hat
 have h0 := blk_cell hp 0
 have h1 := blk_cell hp 1
 have hf0 := blk_frozen hp 0
 have hf1 := blk_frozen hp 1
 simp only [List.getElem?_toArray, List.getElem?_cons_zero, List.getElem?_cons_succ] at h0 h1
 have hpl := blk_lt hp
 have hbd := byteAt_lt l (l.length / 8)
 have hsm := shl_small_bit b (7 - l.length % 8) (by omega)
 have hend := wr_end HO hp rfl (packI_old l b h8)
 have hor := or_bits _ _ hbd hsm
 have hy : b.toNat < 2 := Bool.toNat_lt b
 have hgs := own_shape HO (k := g) rfl
 have HKp := Aside0.mk (fun (i : Nat) (V U : Value) => keptw_end (p := p) (g := g) (E := 5) (w := w) hgs i V U)
 clear hgs
 generalize l.length = n at *
 generalize (packI l).length = m at *
 generalize byteAt l (n / 8) = x at *
 generalize b.toNat = y at *
 have H3 := Aside0.mk hend
 have H8 := Aside0.mk hor
 have hnb : n / 8 < m := by omega
 have hne : g ≠ p := by omega
 clear hor hlen hend HO hp
 have h8' : ((n : Int) % 8 == 0) = false := by simp; omega
 go_enter Try.func56, Try.ntmps56
 go_wp2
 go_region
 all_goals go_wp2
 all_goals go_end0
 all_goals
  refine ⟨rfl, ?_⟩
  have hend := H3.out
  rw [← H8.out] at hend
  rw [mod_bit y _ hsm]
  exact ⟨hend.1, hend.2, HKp.out _ _ _⟩
set_option maxHeartbeats 1000000 in
theorem bit_newK (w : World) (p : Nat) (l : List Bool) (b : Bool) (h : WrIs w p 123 5 l) (hn : l.length < 524288) (h8 : l.length % 8 = 0) :
  Calls Try.prog 56 #[.pointer (some ⟨p, 0, none⟩), .int .u8 (b.toNat : Int)] w fun e w' => e = .returned (.tuple #[]) ∧ WrIs w' p 123 5 (l ++ [b]) ∧ Below p w w' ∧ KeptW p 5 w w' := by
 obtain ⟨v, hp, HO⟩ := h
 have hlen : (packI l).length = (l.length + 7) / 8 := packI_length l
 have h0 := blk_cell hp 0
 have h1 := blk_cell hp 1
 have hf0 := blk_frozen hp 0
 have hf1 := blk_frozen hp 1
 simp only [List.getElem?_toArray, List.getElem?_cons_zero, List.getElem?_cons_succ] at h0 h1
 have hpl := blk_lt hp
 have hbd := byteAt_lt l (l.length / 8)
 have hbz := byteAt_zero l (l.length / 8) (by omega)
 have hsm := shl_small_bit b (7 - l.length % 8) (by omega)
 have hor := or_bits _ _ hbd hsm
 have hpk := packI_new l b h8
 have hy : b.toNat < 2 := Bool.toNat_lt b
 have hxs : rd (packI l ++ [0]) ((l.length / 8 : Nat) : Int) = 0 := by
  rw [show l.length / 8 = (packI l).length by omega]; simp [rd]
 have HKO := Aside0.mk (fun k hk => own_shape HO (k := k) hk)
 have HP := Aside0.mk hp
 have HX := Aside0.mk hxs
 have HK := Aside0.mk hpk
 have HL := Aside0.mk hlen
 have HR := Aside0.mk hor
 have HZ := Aside0.mk hbz
 clear hp hxs hpk hlen hor hbz
 have h8' : ((l.length : Int) % 8 == 0) = true := by simp; omega
 have HU := Try.underlying87
 go_enter Try.func56, Try.ntmps56
 go_wp2_with (at_builtin; refine print_append_num (w0 := w) (p + 1) rfl (.tmp 14) (.tmp 15) 87 5 .u8 1 rfl HU info5 (by omega) v (packI l) 0 rfl rfl HO (Below.refl _ _) (by omega) (by have := HL.out; omega) ?_; intro v1 w1 HO1 HB1 HG1 HA1; obtain ⟨g, cap, rfl, hgb, hgl⟩ := HO1.form (by simp); have hp1 := blk_grown HP.out HG1 (fun e => by have := own_base HO p e.symm; omega); have hpl1 := blk_lt hp1; have k0 := blk_cell hp1 0; have k1 := blk_cell hp1 1; have kf0 := blk_frozen hp1 0; have kf1 := blk_frozen hp1 1; simp only [List.getElem?_toArray, List.getElem?_cons_zero, List.getElem?_cons_succ] at k0 k1; have hat := own_at HO1 ((l.length / 8 : Nat) : Int) (by omega) ((by have := HL.out; simp only [List.length_append, List.length_cons, List.length_nil]; omega)); rw [HX.out] at hat; simp only [Int.toNat_natCast] at hat; obtain ⟨hx, hgf⟩ := hat; have HP1 := Aside0.mk hp1; have HO2 := Aside0.mk HO1; clear hp1 HO1; have hne : g ≠ p := (by omega); have hnb : l.length / 8 < (packI l).length + 1 := (by have := HL.out; omega))
 go_region
 all_goals go_wp2
 all_goals go_end0
 all_goals
  have HO3 := own_setCell HO2.out (p := ⟨p, 0, none⟩) (by simp [Value.ownBlock]; omega) (.slice (some ⟨g, 0, none⟩) (packI l ++ [0]).length cap)
  have HP3 := blk_set HP1.out 0 (.slice (some ⟨g, 0, none⟩) (packI l ++ [0]).length cap)
  have hend := wr_end HO3 (by simpa using HP3) rfl HK.out
  refine ⟨rfl, ?_⟩
  rw [← HR.out, HZ.out] at hend
  have e : ((b.toNat * 2 ^ (7 - l.length % 8) : Nat) : Int) = (b.toNat : Int) * 128 % 256 := by rw [h8]; omega
  rw [e] at hend
  simp only [List.length_append, List.length_singleton] at hend
  have kp1 : KeptW p 5 w w1 := ⟨HB1.size, fun k hk _ hs => HG1.block k hk (fun e => hs (HKO.out k (by first | exact e.symm | exact e)))⟩
  have kp2 := kp1.setp 0 (.slice (some ⟨g, 0, none⟩) (packI l ++ [0]).length cap)
  have kp3 := fun V U => kp2.trans (keptw_end (own_shape HO3 (k := g) rfl) (l.length / 8) V U)
  simp only [List.length_append, List.length_singleton] at kp3
  refine ⟨hend.1, ?_, kp3 _ _⟩
  exact ((HB1.mono (by omega)).setCell (p := ⟨p, 0, none⟩) (Nat.le_refl p) _).trans hend.2
theorem bit_K (w : World) (p : Nat) (l : List Bool) (b : Bool) (h : WrIs w p 123 5 l) (hn : l.length < 524288) :
  Calls Try.prog 56 #[.pointer (some ⟨p, 0, none⟩), .int .u8 (b.toNat : Int)] w fun e w' => e = .returned (.tuple #[]) ∧ WrIs w' p 123 5 (l ++ [b]) ∧ Below p w w' ∧ KeptW p 5 w w' := by
 by_cases h8 : l.length % 8 = 0
 ·exact bit_newK w p l b h hn h8
 ·exact bit_oldK w p l b h hn h8
set_option maxHeartbeats 1000000 in
theorem rput_K (w : World) (p : Nat) (l : List Bool) (v n : Nat) (h : WrIs w p 123 5 l) (hv : v < 4294967296) (hn : n ≤ 32) (hl : l.length + n ≤ 524288) :
  Calls Try.prog 30 #[.pointer (some ⟨p, 0, none⟩), .int .u32 (v : Int), .int .i64 (n : Int)] w fun e w' => e = .returned (.tuple #[]) ∧ WrIs w' p 123 5 (l ++ toBits n v) ∧ Below p w w' ∧ KeptW p 5 w w' := by
 have h' := h
 obtain ⟨vv, hp, HO⟩ := h'
 have h0 := blk_cell hp 0
 have h1 := blk_cell hp 1
 simp only [List.getElem?_toArray, List.getElem?_cons_zero, List.getElem?_cons_succ] at h0 h1
 clear hp HO
 go_enter Try.func30, Try.ntmps30
 go_wp2
 go_loopw [6] (fun iv wr => ∃ (k : Int) (l' : List Bool), iv = .int .i64 k ∧ (-1 ≤ k ∧ k ≤ 31) ∧ l' ++ toBits (k + 1).toNat v = l ++ toBits n v ∧ WrIs wr p 123 5 l' ∧ Below p w wr ∧ KeptW p 5 w wr) (fun iv _ => (intOf iv + 1).toNat)
 case atStart => exact ⟨(n : Int) - 1, l, rfl, ⟨by omega, by omega⟩, by rw [show ((n : Int) - 1 + 1).toNat = n by omega], h, Below.refl _ _, KeptW.refl _ _ _⟩
 case round =>
  obtain ⟨k, l', rfl, ⟨hk0, hk1⟩, he, hW, hB, hKp⟩ := hrel
  have hlen : l'.length + (k + 1).toNat = l.length + n := by have := congrArg List.length he; simpa [toBits_length] using this
  have HE := Aside0.mk he
  have HL := Aside0.mk hlen
  clear he hlen
  by_cases hpos : 0 ≤ k
  ·have HA := Aside0.mk (and_one_u32 v k.toNat hv)
   go_wp2_with fail
   rw [HA.out]
   rw [show (((v.testBit k.toNat).toNat : Int) % 256) = ((v.testBit k.toNat).toNat : Int) from by have := Bool.toNat_lt (v.testBit k.toNat); omega]
   refine (bit_K _ _ _ _ hW (by have := HL.out; omega)).mono ?_
   rintro e w1 ⟨rfl, hW1, hB1, hKq⟩
   go_wp2
   go_roundw
   case rel =>
    refine ⟨k - 1, _, rfl, ⟨by omega, by omega⟩, ?_, hW1, hB.trans hB1, hKp.trans hKq⟩
    rw [← HE.out, show (k + 1).toNat = (k - 1 + 1).toNat + 1 by omega, show (k - 1 + 1).toNat = k.toNat by omega]
    simp [toBits]
   case measure => simp [intOf]; omega
  ·go_wp2
   go_end0
   refine ⟨rfl, ?_, hB, hKp⟩
   rw [← HE.out, show (k + 1).toNat = 0 by omega]
   simpa [toBits] using hW
set_option maxHeartbeats 4000000 in
theorem ralign_K (w : World) (p : Nat) (l : List Bool) (h : WrIs w p 123 5 l) (hl : l.length + 32 ≤ 524288) :
  Calls Try.prog 31 #[.pointer (some ⟨p, 0, none⟩), .int .i64 32] w fun e w' => e = .returned (.tuple #[]) ∧ WrIs w' p 123 5 (l ++ List.replicate ((32 - l.length % 32) % 32) false) ∧ Below p w w' ∧ KeptW p 5 w w' := by
 have h' := h
 obtain ⟨vv, hp, HO⟩ := h'
 have h1 := blk_cell hp 1
 simp only [List.getElem?_toArray, List.getElem?_cons_zero, List.getElem?_cons_succ] at h1
 have H := Aside0.mk h
 clear hp HO h
 go_enter Try.func31, Try.ntmps31
 have qd : decide (524288 - (l.length : Int) < -((l.length : Int) % 32) % 32) = false := decide_eq_false (by omega)
 obtain ⟨K, hK⟩ : ∃ K, K = (32 - l.length % 32) % 32 := ⟨_, rfl⟩
 rw [← hK]
 have HK := Aside0.mk hK
 clear hK
 go_wp2
 go_region
 go_wp2_with fail
 clear qd h1
 generalize ((32 - (l.length : Int) % 32) % 32) = V20
 go_loopw [28] (fun _ wr => ∃ j : Nat, j ≤ K ∧ Aside0 (WrIs wr p 123 5 (l ++ List.replicate j false)) ∧ Aside0 (Below p w wr ∧ KeptW p 5 w wr)) (fun _ wr => l.length + K - lenW p wr)
 case atStart => exact ⟨0, Nat.zero_le _, ⟨by rw [List.replicate_zero, List.append_nil]; exact H.out⟩, ⟨(Below.refl _ _).drew, (KeptW.refl _ _ _).drew⟩⟩
 case round =>
  clear H
  obtain ⟨j, hj, H, HB⟩ := hrel
  have HL := Aside0.mk (lenW_is H.out)
  obtain ⟨vv2, hp, HO⟩ := H.out
  have h1 := blk_cell hp 1
  simp only [List.getElem?_toArray, List.getElem?_cons_zero, List.getElem?_cons_succ] at h1
  rw [List.length_append, List.length_replicate] at h1
  clear hp HO
  have hKK := HK.out
  by_cases hlt : j < K
  ·have q1 : (((l.length : Int) + (j : Int)) % 32 != 0) = true := by simp; omega
   clear hKK
   go_wp2_with fail
   refine (bit_K _ p _ false H.out (by rw [List.length_append, List.length_replicate]; have := HK.out; omega)).mono ?_
   rintro e w1 ⟨rfl, hW, hB, hKq⟩
   have HW := Aside0.mk hW
   have HB1 := Aside0.mk (And.intro (HB.out.1.trans hB) (HB.out.2.trans hKq))
   clear hW hB hKq
   go_wp2_with fail
   refine ⟨⟨j + 1, by omega, ⟨?_⟩, HB1⟩, ?_⟩
   ·rw [List.replicate_succ', ← List.append_assoc]
    exact HW.out
   ·show l.length + K - lenW p _ < l.length + K - lenW p _
    rw [HL.out, lenW_is HW.out]
    simp only [List.length_append, List.length_replicate, List.length_cons, List.length_nil]
    omega
  ·have hjk : j = K := by omega
   have q1 : (((l.length : Int) + (j : Int)) % 32 != 0) = false := by simp; omega
   rw [hjk] at H
   clear hKK hjk
   go_wp2_with fail
   go_end0
   exact ⟨rfl, H.out, HB.out.1, HB.out.2⟩
end Go.Proofs.Ytgakmnholegbgaa.B
end
section
namespace Go.Proofs.Ytgakmnholegbgaa.B
open Go.RowKit Go.Proofs.YtgakmnholegbgaaW.PrintWords Go.Proofs.YtgakmnholegbgaaW.PrintLast Go.Proofs.YtgakmnholegbgaaW.PrintMore
set_option linter.unusedVariables false
set_option linter.unusedSimpArgs false
def eH : List Bool := [] ++ toBits 32 0
def eB (f : Nat) : List Bool := ((eH ++ toBits 32 0) ++ toBits 16 f) ++ toBits 16 3
def eM1 (f k : Nat) : List Bool := ((eB f ++ toBits 1 1) ++ toBits 2 0) ++ toBits 13 k
def eM2 (f k : Nat) : List Bool := ((eM1 f k ++ toBits 1 1) ++ toBits 2 3) ++ toBits 13 8191
def eM3 (f k : Nat) : List Bool := ((eM2 f k ++ toBits 1 0) ++ toBits 2 0) ++ toBits 13 0
def eA (f k : Nat) : List Bool := eM3 f k ++ List.replicate ((32 - (eM3 f k).length % 32) % 32) false
def eE (f k S : Nat) : List Bool := eA f k ++ toBits 32 S
theorem eB_len (f : Nat) : (eB f).length = 96 := by simp only [eB, eH, List.length_append, toBits_length, List.length_nil]
theorem eM1_len (f k : Nat) : (eM1 f k).length = 112 := by simp only [eM1, eB_len, List.length_append, toBits_length]
theorem eM2_len (f k : Nat) : (eM2 f k).length = 128 := by simp only [eM2, eM1_len, List.length_append, toBits_length]
theorem eM3_len (f k : Nat) : (eM3 f k).length = 144 := by simp only [eM3, eM2_len, List.length_append, toBits_length]
theorem eA_len (f k : Nat) : (eA f k).length = 160 := by simp only [eA, eM3_len, List.length_append, List.length_replicate]
theorem eH_len : eH.length = 32 := by simp only [eH, List.length_append, toBits_length, List.length_nil]
theorem shp {w : World} {g : Nat} {cs : Array Value} {t E : TypeId} {fz : Nat × Nat} (h : w.heap[g]? = some (.cells cs t fz)) (hne : t ≠ E) : (w.shape? g).map (·.1) ≠ some E := by
 simp only [World.shape?, h, Option.map_some, ne_eq, Option.some.injEq]
 exact hne
theorem wr_alloc {w : World} {p T E : Nat} {l : List Bool} (h : WrIs w p T E l) (o : Obj) : WrIs (w.alloc o) p T E l := by
 obtain ⟨v, hp, HO⟩ := h
 exact ⟨v, (Below.heap_alloc w o p (blk_lt hp)).trans hp, HO.alloc o⟩
theorem wr_lt {w : World} {p T E : Nat} {l : List Bool} (h : WrIs w p T E l) : p < w.heap.size := by
 obtain ⟨v, hp, _⟩ := h
 exact blk_lt hp
structure TiE (w0 w : World) (g1 gb gm f k S p : Nat) (L : List Bool) : Prop where
 ts : TiS w0 w g1 gb gm f k S
 wr : WrIs w p 123 5 L
 n1 : g1 ≠ p
 nb : gb ≠ p
 nm : gm ≠ p
 wp : w0.heap.size ≤ p
theorem TiE.put {w0 w w' : World} {g1 gb gm f k S p : Nat} {L L' : List Bool} (h : TiE w0 w g1 gb gm f k S p L) (hW : WrIs w' p 123 5 L') (hB : Below p w w') (hK : KeptW p 5 w w') : TiE w0 w' g1 gb gm f k S p L' :=
 ⟨⟨(hK.block gm (blk_lt h.ts.km) h.nm (shp h.ts.km (by decide))).trans h.ts.km, (hK.block gb (blk_lt h.ts.kb) h.nb (shp h.ts.kb (by decide))).trans h.ts.kb, (hK.block g1 (blk_lt h.ts.k1) h.n1 (shp h.ts.k1 (by decide))).trans h.ts.k1, h.ts.bel.trans (hB.mono h.wp)⟩, hW, h.n1, h.nb, h.nm, h.wp⟩
structure TiF (w0 w : World) (g1 gb gm f k S p g4 : Nat) (L : List Bool) : Prop where
 ti : TiI w0 w g1 gb gm f k S g4
 wr : WrIs w p 123 5 L
 n1 : g1 ≠ p
 nb : gb ≠ p
 nm : gm ≠ p
 n4 : g4 ≠ p
 wp : w0.heap.size ≤ p
theorem TiF.put {w0 w w' : World} {g1 gb gm f k S p g4 : Nat} {L L' : List Bool} (h : TiF w0 w g1 gb gm f k S p g4 L) (hW : WrIs w' p 123 5 L') (hB : Below p w w') (hK : KeptW p 5 w w') : TiF w0 w' g1 gb gm f k S p g4 L' :=
 ⟨⟨(hK.block gm (blk_lt h.ti.km) h.nm (shp h.ti.km (by decide))).trans h.ti.km, (hK.block gb (blk_lt h.ti.kb) h.nb (shp h.ti.kb (by decide))).trans h.ti.kb, (hK.block g1 (blk_lt h.ti.k1) h.n1 (shp h.ti.k1 (by decide))).trans h.ti.k1, h.ti.bel.trans (hB.mono h.wp), (hK.block g4 (blk_lt h.ti.kc) h.n4 (shp h.ti.kc (by decide))).trans h.ti.kc⟩, hW, h.n1, h.nb, h.nm, h.n4, h.wp⟩
theorem TiF.alloc {w0 w : World} {g1 gb gm f k S p g4 : Nat} {L : List Bool} (h : TiF w0 w g1 gb gm f k S p g4 L) (o : Obj) : TiF w0 (w.alloc o) g1 gb gm f k S p g4 L := ⟨h.ti.alloc o, wr_alloc h.wr o, h.n1, h.nb, h.nm, h.n4, h.wp⟩
theorem TiF.lt {w0 w : World} {g1 gb gm f k S p g4 : Nat} {L : List Bool} (h : TiF w0 w g1 gb gm f k S p g4 L) : p < w.heap.size := wr_lt h.wr
set_option maxHeartbeats 16000000 in
set_option maxRecDepth 100000 in
theorem times_encode (w : World) (gb gm f k S : Nat) (hf : f ≤ 65535) (hk : k ≤ 8189) (hS : S ≤ 4294967295) (km : w.heap[gm]? = some (.cells #[.bool true, .int .i64 0, .int .i64 k, .bool true, .int .i64 3, .int .i64 8191, .bool false, .int .i64 0, .int .i64 0] 45 (0, 0))) (kb : w.heap[gb]? = some (.cells #[.int .u32 0, .int .i64 f, .slice (some ⟨gm, 0, none⟩) 3 3] 49 (0, 0))) : Calls Try.prog 15 #[.agg #[.int .u32 0, .slice (some ⟨gb, 0, none⟩) 1 1, .int .u32 S]] w fun e w' => e = .returned (.tuple #[.string (strOfNums (packI (eE f k S))), .int .i64 0]) ∧ Below w.heap.size w w' := by
 have HT := Aside0.mk (TiS.box w gb gm f k S km kb)
 clear km kb
 go_enter Try.func15, Try.ntmps15
 go_upto_region 1 with fail
 obtain ⟨g1, hg1⟩ : ∃ g, g = w.heap.size := ⟨_, rfl⟩
 rw [← hg1] at HT ⊢
 clear hg1
 generalize w.alloc (.cells #[.int .u32 0, .slice (some ⟨gb, 0, none⟩) 1 1, .int .u32 S] 53) = w1 at *
 have c0 := blk_cell HT.out.k1 0
 have c1 := blk_cell HT.out.k1 1
 have c2 := blk_cell HT.out.k1 2
 simp only [List.getElem?_toArray, List.getElem?_cons_zero, List.getElem?_cons_succ] at c0 c1 c2
 go_wp2_with fail
 refine (times_good w1 gb gm f k S hf hk HT.out.km HT.out.kb).mono ?_
 rintro e w2 ⟨rfl, hb⟩
 replace HT := Aside0.mk (HT.out.below hb)
 clear hb c0 c1 c2
 have c0 := blk_cell HT.out.k1 0
 have c1 := blk_cell HT.out.k1 1
 have c2 := blk_cell HT.out.k1 2
 simp only [List.getElem?_toArray, List.getElem?_cons_zero, List.getElem?_cons_succ] at c0 c1 c2
 go_wp2_with fail
 refine (times_size w2 gb gm f k S HT.out.km HT.out.kb).mono ?_
 rintro e w3 ⟨rfl, hb⟩
 replace HT := Aside0.mk (HT.out.below hb)
 clear hb c0 c1 c2
 go_wp2_with fail
 refine (rwrite_any w3).mono ?_
 rintro e w4 ⟨rfl, hW, hb⟩
 obtain ⟨p, hp⟩ : ∃ p, p = w3.heap.size := ⟨_, rfl⟩
 rw [← hp] at hW hb ⊢
 have HE := Aside0.mk (show TiE w w4 g1 gb gm f k S p [] from ⟨HT.out.below (by rw [← hp]; exact hb), hW, fun e => absurd (blk_lt HT.out.k1) (by omega), fun e => absurd (blk_lt HT.out.kb) (by omega), fun e => absurd (blk_lt HT.out.km) (by omega), by rw [hp]; exact HT.out.bel.size⟩)
 clear hW hb hp HT
 have c0 := blk_cell HE.out.ts.k1 0
 have c1 := blk_cell HE.out.ts.k1 1
 have c2 := blk_cell HE.out.ts.k1 2
 simp only [List.getElem?_toArray, List.getElem?_cons_zero, List.getElem?_cons_succ] at c0 c1 c2
 go_wp2_with fail
 refine (rput_K w4 p _ 0 32 HE.out.wr (by omega) (by omega) (by simp only [List.length_append, toBits_length, List.length_nil, eB_len, eM1_len, eM2_len, eM3_len, eA_len, eH_len]; omega)).mono ?_
 rintro e w5 ⟨rfl, hW, hB, hK⟩
 replace HE := Aside0.mk (HE.out.put hW hB hK)
 clear hW hB hK
 replace HE := Aside0.mk (show TiE w w5 g1 gb gm f k S p eH from HE.out)
 clear c0 c1 c2
 go_wp2_with fail
 go_loopw [5, 6, 7, 8, 9] (fun v5 _ _ _ _ wr => (v5 = .int .i64 0 ∧ Aside0 (TiE w wr g1 gb gm f k S p eH)) ∨ (v5 = .int .i64 1 ∧ Aside0 (TiE w wr g1 gb gm f k S p (eA f k)))) (fun v _ _ _ _ _ => 1 - (intOf v).toNat)
 case atStart => exact .inl ⟨rfl, HE⟩
 case round =>
  clear HE
  rcases hrel with ⟨rfl, HE⟩ | ⟨rfl, HE⟩
  ·have c1 := blk_cell HE.out.ts.k1 1
   simp only [List.getElem?_toArray, List.getElem?_cons_zero, List.getElem?_cons_succ] at c1
   have b0 := blk_cell HE.out.ts.kb 0
   have b1 := blk_cell HE.out.ts.kb 1
   have b2 := blk_cell HE.out.ts.kb 2
   simp only [List.getElem?_toArray, List.getElem?_cons_zero, List.getElem?_cons_succ] at b0 b1 b2
   go_upto_region 11 with fail
   have HF := Aside0.mk (show TiF w (wr.alloc (.cells #[.int .u32 0, .int .i64 f, .slice (some ⟨gm, 0, none⟩) 3 3] 49)) g1 gb gm f k S p wr.heap.size eH from ⟨⟨(HE.out.ts.alloc _).km, (HE.out.ts.alloc _).kb, (HE.out.ts.alloc _).k1, (HE.out.ts.alloc _).bel, blk_new wr _⟩, wr_alloc HE.out.wr _, HE.out.n1, HE.out.nb, HE.out.nm, fun e => absurd (wr_lt HE.out.wr) (by omega), HE.out.wp⟩)
   clear HE c1 b0 b1 b2
   obtain ⟨g4, hg4⟩ : ∃ g, g = wr.heap.size := ⟨_, rfl⟩
   rw [← hg4] at HF ⊢
   clear hg4
   generalize wr.alloc (.cells #[.int .u32 0, .int .i64 f, .slice (some ⟨gm, 0, none⟩) 3 3] 49) = w6 at *
   have b0 := blk_cell HF.out.ti.kc 0
   have b1 := blk_cell HF.out.ti.kc 1
   have b2 := blk_cell HF.out.ti.kc 2
   simp only [List.getElem?_toArray, List.getElem?_cons_zero, List.getElem?_cons_succ] at b0 b1 b2
   go_wp2_with fail
   refine (rput_K w6 p _ 0 32 HF.out.wr (by omega) (by omega) (by simp only [List.length_append, toBits_length, List.length_nil, eB_len, eM1_len, eM2_len, eM3_len, eA_len, eH_len]; omega)).mono ?_
   rintro e w7 ⟨rfl, hW, hB, hK⟩
   replace HF := Aside0.mk (HF.out.put hW hB hK)
   clear hW hB hK
   clear b0 b1 b2
   have b0 := blk_cell HF.out.ti.kc 0
   have b1 := blk_cell HF.out.ti.kc 1
   have b2 := blk_cell HF.out.ti.kc 2
   simp only [List.getElem?_toArray, List.getElem?_cons_zero, List.getElem?_cons_succ] at b0 b1 b2
   go_wp2_with fail
   refine (rput_K w7 p _ f 16 HF.out.wr (by omega) (by omega) (by simp only [List.length_append, toBits_length, List.length_nil, eB_len, eM1_len, eM2_len, eM3_len, eA_len, eH_len]; omega)).mono ?_
   rintro e w8 ⟨rfl, hW, hB, hK⟩
   replace HF := Aside0.mk (HF.out.put hW hB hK)
   clear hW hB hK
   clear b0 b1 b2
   have b0 := blk_cell HF.out.ti.kc 0
   have b1 := blk_cell HF.out.ti.kc 1
   have b2 := blk_cell HF.out.ti.kc 2
   simp only [List.getElem?_toArray, List.getElem?_cons_zero, List.getElem?_cons_succ] at b0 b1 b2
   go_wp2_with fail
   refine (rput_K w8 p _ 3 16 HF.out.wr (by omega) (by omega) (by simp only [List.length_append, toBits_length, List.length_nil, eB_len, eM1_len, eM2_len, eM3_len, eA_len, eH_len]; omega)).mono ?_
   rintro e w9 ⟨rfl, hW, hB, hK⟩
   replace HF := Aside0.mk (HF.out.put hW hB hK)
   clear hW hB hK
   replace HF := Aside0.mk (show TiF w w9 g1 gb gm f k S p g4 (eB f) from HF.out)
   clear b0 b1 b2
   go_wp2_with fail
   go_loopw [7, 8, 9] (fun v7 _ _ wr => (v7 = .int .i64 0 ∧ Aside0 (TiF w wr g1 gb gm f k S p g4 (eB f))) ∨ (v7 = .int .i64 1 ∧ Aside0 (TiF w wr g1 gb gm f k S p g4 (eM1 f k))) ∨ (v7 = .int .i64 2 ∧ Aside0 (TiF w wr g1 gb gm f k S p g4 (eM2 f k))) ∨ (v7 = .int .i64 3 ∧ Aside0 (TiF w wr g1 gb gm f k S p g4 (eM3 f k)))) (fun v _ _ _ => 3 - (intOf v).toNat)
   case atStart => exact .inl ⟨rfl, HF⟩
   case round =>
    clear HF
    rcases hrel with ⟨rfl, HF⟩ | ⟨rfl, HF⟩ | ⟨rfl, HF⟩ | ⟨rfl, HF⟩
    ·skip
     have b2 := blk_cell HF.out.ti.kc 2
     simp only [List.getElem?_toArray, List.getElem?_cons_zero, List.getElem?_cons_succ] at b2
     have m0 := blk_cell HF.out.ti.km 0
     have m1 := blk_cell HF.out.ti.km 1
     have m2 := blk_cell HF.out.ti.km 2
     simp only [List.getElem?_toArray, List.getElem?_cons_zero, List.getElem?_cons_succ] at m0 m1 m2
     go_upto_region 18 with fail
     have K8 := Aside0.mk (blk_new wr (.cells #[.bool true, .int .i64 0, .int .i64 k] 45))
     have N8 : Aside0 (wr.heap.size ≠ p) := ⟨fun e => absurd HF.out.lt (by omega)⟩
     replace HF := Aside0.mk (HF.out.alloc (.cells #[.bool true, .int .i64 0, .int .i64 k] 45))
     clear b2 m0 m1 m2
     obtain ⟨g8, hg8⟩ : ∃ g, g = wr.heap.size := ⟨_, rfl⟩
     rw [← hg8] at K8 N8 ⊢
     clear hg8
     generalize wr.alloc (.cells #[.bool true, .int .i64 0, .int .i64 k] 45) = wa at *
     have n0 := blk_cell K8.out 0
     have n1 := blk_cell K8.out 1
     have n2 := blk_cell K8.out 2
     simp only [List.getElem?_toArray, List.getElem?_cons_zero, List.getElem?_cons_succ] at n0 n1 n2
     go_wp2_with fail
     refine (rput_K wa p _ 1 1 HF.out.wr (by omega) (by omega) (by simp only [List.length_append, toBits_length, List.length_nil, eB_len, eM1_len, eM2_len, eM3_len, eA_len, eH_len]; omega)).mono ?_
     rintro e wb ⟨rfl, hW, hB, hK⟩
     replace K8 := Aside0.mk ((hK.block g8 (blk_lt K8.out) N8.out (shp K8.out (by decide))).trans K8.out)
     replace HF := Aside0.mk (HF.out.put hW hB hK)
     clear hW hB hK
     clear n0 n1 n2
     have n0 := blk_cell K8.out 0
     have n1 := blk_cell K8.out 1
     have n2 := blk_cell K8.out 2
     simp only [List.getElem?_toArray, List.getElem?_cons_zero, List.getElem?_cons_succ] at n0 n1 n2
     go_wp2_with fail
     refine (rput_K wb p _ 0 2 HF.out.wr (by omega) (by omega) (by simp only [List.length_append, toBits_length, List.length_nil, eB_len, eM1_len, eM2_len, eM3_len, eA_len, eH_len]; omega)).mono ?_
     rintro e wc ⟨rfl, hW, hB, hK⟩
     replace K8 := Aside0.mk ((hK.block g8 (blk_lt K8.out) N8.out (shp K8.out (by decide))).trans K8.out)
     replace HF := Aside0.mk (HF.out.put hW hB hK)
     clear hW hB hK
     clear n0 n1 n2
     have n0 := blk_cell K8.out 0
     have n1 := blk_cell K8.out 1
     have n2 := blk_cell K8.out 2
     simp only [List.getElem?_toArray, List.getElem?_cons_zero, List.getElem?_cons_succ] at n0 n1 n2
     go_wp2_with fail
     refine (rput_K wc p _ k 13 HF.out.wr (by omega) (by omega) (by simp only [List.length_append, toBits_length, List.length_nil, eB_len, eM1_len, eM2_len, eM3_len, eA_len, eH_len]; omega)).mono ?_
     rintro e wd ⟨rfl, hW, hB, hK⟩
     replace K8 := Aside0.mk ((hK.block g8 (blk_lt K8.out) N8.out (shp K8.out (by decide))).trans K8.out)
     replace HF := Aside0.mk (HF.out.put hW hB hK)
     clear hW hB hK
     clear n0 n1 n2 K8 N8
     go_wp2_with fail
     exact ⟨.inr (.inl ⟨rfl, HF⟩), by simp [intOf]⟩
    ·skip
     have b2 := blk_cell HF.out.ti.kc 2
     simp only [List.getElem?_toArray, List.getElem?_cons_zero, List.getElem?_cons_succ] at b2
     have m0 := blk_cell HF.out.ti.km 3
     have m1 := blk_cell HF.out.ti.km 4
     have m2 := blk_cell HF.out.ti.km 5
     simp only [List.getElem?_toArray, List.getElem?_cons_zero, List.getElem?_cons_succ] at m0 m1 m2
     go_upto_region 18 with fail
     have K8 := Aside0.mk (blk_new wr (.cells #[.bool true, .int .i64 3, .int .i64 8191] 45))
     have N8 : Aside0 (wr.heap.size ≠ p) := ⟨fun e => absurd HF.out.lt (by omega)⟩
     replace HF := Aside0.mk (HF.out.alloc (.cells #[.bool true, .int .i64 3, .int .i64 8191] 45))
     clear b2 m0 m1 m2
     obtain ⟨g8, hg8⟩ : ∃ g, g = wr.heap.size := ⟨_, rfl⟩
     rw [← hg8] at K8 N8 ⊢
     clear hg8
     generalize wr.alloc (.cells #[.bool true, .int .i64 3, .int .i64 8191] 45) = wa at *
     have n0 := blk_cell K8.out 0
     have n1 := blk_cell K8.out 1
     have n2 := blk_cell K8.out 2
     simp only [List.getElem?_toArray, List.getElem?_cons_zero, List.getElem?_cons_succ] at n0 n1 n2
     go_wp2_with fail
     refine (rput_K wa p _ 1 1 HF.out.wr (by omega) (by omega) (by simp only [List.length_append, toBits_length, List.length_nil, eB_len, eM1_len, eM2_len, eM3_len, eA_len, eH_len]; omega)).mono ?_
     rintro e wb ⟨rfl, hW, hB, hK⟩
     replace K8 := Aside0.mk ((hK.block g8 (blk_lt K8.out) N8.out (shp K8.out (by decide))).trans K8.out)
     replace HF := Aside0.mk (HF.out.put hW hB hK)
     clear hW hB hK
     clear n0 n1 n2
     have n0 := blk_cell K8.out 0
     have n1 := blk_cell K8.out 1
     have n2 := blk_cell K8.out 2
     simp only [List.getElem?_toArray, List.getElem?_cons_zero, List.getElem?_cons_succ] at n0 n1 n2
     go_wp2_with fail
     refine (rput_K wb p _ 3 2 HF.out.wr (by omega) (by omega) (by simp only [List.length_append, toBits_length, List.length_nil, eB_len, eM1_len, eM2_len, eM3_len, eA_len, eH_len]; omega)).mono ?_
     rintro e wc ⟨rfl, hW, hB, hK⟩
     replace K8 := Aside0.mk ((hK.block g8 (blk_lt K8.out) N8.out (shp K8.out (by decide))).trans K8.out)
     replace HF := Aside0.mk (HF.out.put hW hB hK)
     clear hW hB hK
     clear n0 n1 n2
     have n0 := blk_cell K8.out 0
     have n1 := blk_cell K8.out 1
     have n2 := blk_cell K8.out 2
     simp only [List.getElem?_toArray, List.getElem?_cons_zero, List.getElem?_cons_succ] at n0 n1 n2
     go_wp2_with fail
     refine (rput_K wc p _ 8191 13 HF.out.wr (by omega) (by omega) (by simp only [List.length_append, toBits_length, List.length_nil, eB_len, eM1_len, eM2_len, eM3_len, eA_len, eH_len]; omega)).mono ?_
     rintro e wd ⟨rfl, hW, hB, hK⟩
     replace K8 := Aside0.mk ((hK.block g8 (blk_lt K8.out) N8.out (shp K8.out (by decide))).trans K8.out)
     replace HF := Aside0.mk (HF.out.put hW hB hK)
     clear hW hB hK
     clear n0 n1 n2 K8 N8
     go_wp2_with fail
     exact ⟨.inr (.inr (.inl ⟨rfl, HF⟩)), by simp [intOf]⟩
    ·skip
     have b2 := blk_cell HF.out.ti.kc 2
     simp only [List.getElem?_toArray, List.getElem?_cons_zero, List.getElem?_cons_succ] at b2
     have m0 := blk_cell HF.out.ti.km 6
     have m1 := blk_cell HF.out.ti.km 7
     have m2 := blk_cell HF.out.ti.km 8
     simp only [List.getElem?_toArray, List.getElem?_cons_zero, List.getElem?_cons_succ] at m0 m1 m2
     go_upto_region 18 with fail
     have K8 := Aside0.mk (blk_new wr (.cells #[.bool false, .int .i64 0, .int .i64 0] 45))
     have N8 : Aside0 (wr.heap.size ≠ p) := ⟨fun e => absurd HF.out.lt (by omega)⟩
     replace HF := Aside0.mk (HF.out.alloc (.cells #[.bool false, .int .i64 0, .int .i64 0] 45))
     clear b2 m0 m1 m2
     obtain ⟨g8, hg8⟩ : ∃ g, g = wr.heap.size := ⟨_, rfl⟩
     rw [← hg8] at K8 N8 ⊢
     clear hg8
     generalize wr.alloc (.cells #[.bool false, .int .i64 0, .int .i64 0] 45) = wa at *
     have n0 := blk_cell K8.out 0
     have n1 := blk_cell K8.out 1
     have n2 := blk_cell K8.out 2
     simp only [List.getElem?_toArray, List.getElem?_cons_zero, List.getElem?_cons_succ] at n0 n1 n2
     go_wp2_with fail
     refine (rput_K wa p _ 0 1 HF.out.wr (by omega) (by omega) (by simp only [List.length_append, toBits_length, List.length_nil, eB_len, eM1_len, eM2_len, eM3_len, eA_len, eH_len]; omega)).mono ?_
     rintro e wb ⟨rfl, hW, hB, hK⟩
     replace K8 := Aside0.mk ((hK.block g8 (blk_lt K8.out) N8.out (shp K8.out (by decide))).trans K8.out)
     replace HF := Aside0.mk (HF.out.put hW hB hK)
     clear hW hB hK
     clear n0 n1 n2
     have n0 := blk_cell K8.out 0
     have n1 := blk_cell K8.out 1
     have n2 := blk_cell K8.out 2
     simp only [List.getElem?_toArray, List.getElem?_cons_zero, List.getElem?_cons_succ] at n0 n1 n2
     go_wp2_with fail
     refine (rput_K wb p _ 0 2 HF.out.wr (by omega) (by omega) (by simp only [List.length_append, toBits_length, List.length_nil, eB_len, eM1_len, eM2_len, eM3_len, eA_len, eH_len]; omega)).mono ?_
     rintro e wc ⟨rfl, hW, hB, hK⟩
     replace K8 := Aside0.mk ((hK.block g8 (blk_lt K8.out) N8.out (shp K8.out (by decide))).trans K8.out)
     replace HF := Aside0.mk (HF.out.put hW hB hK)
     clear hW hB hK
     clear n0 n1 n2
     have n0 := blk_cell K8.out 0
     have n1 := blk_cell K8.out 1
     have n2 := blk_cell K8.out 2
     simp only [List.getElem?_toArray, List.getElem?_cons_zero, List.getElem?_cons_succ] at n0 n1 n2
     go_wp2_with fail
     refine (rput_K wc p _ 0 13 HF.out.wr (by omega) (by omega) (by simp only [List.length_append, toBits_length, List.length_nil, eB_len, eM1_len, eM2_len, eM3_len, eA_len, eH_len]; omega)).mono ?_
     rintro e wd ⟨rfl, hW, hB, hK⟩
     replace K8 := Aside0.mk ((hK.block g8 (blk_lt K8.out) N8.out (shp K8.out (by decide))).trans K8.out)
     replace HF := Aside0.mk (HF.out.put hW hB hK)
     clear hW hB hK
     clear n0 n1 n2 K8 N8
     go_wp2_with fail
     exact ⟨.inr (.inr (.inr ⟨rfl, HF⟩)), by simp [intOf]⟩
    ·have b2 := blk_cell HF.out.ti.kc 2
     simp only [List.getElem?_toArray, List.getElem?_cons_zero, List.getElem?_cons_succ] at b2
     go_wp2_with fail
     refine (ralign_K _ p _ HF.out.wr (by rw [eM3_len]; omega)).mono ?_
     rintro e wz ⟨rfl, hW, hB, hK⟩
     replace HF := Aside0.mk (HF.out.put hW hB hK)
     clear hW hB hK b2
     go_wp2_with fail
     exact ⟨.inr ⟨rfl, ⟨HF.out.ti.ts, HF.out.wr, HF.out.n1, HF.out.nb, HF.out.nm, HF.out.wp⟩⟩, by simp [intOf]⟩
  ·have c1 := blk_cell HE.out.ts.k1 1
   have c2 := blk_cell HE.out.ts.k1 2
   simp only [List.getElem?_toArray, List.getElem?_cons_zero, List.getElem?_cons_succ] at c1 c2
   go_wp2_with fail
   refine (rput_K _ p _ S 32 HE.out.wr (by omega) (by omega) (by simp only [List.length_append, toBits_length, List.length_nil, eB_len, eM1_len, eM2_len, eM3_len, eA_len, eH_len]; omega)).mono ?_
   rintro e wy ⟨rfl, hW, hB, hK⟩
   replace HE := Aside0.mk (HE.out.put hW hB hK)
   clear hW hB hK
   clear c1 c2
   go_wp2_with fail
   refine (rtext_any _ p _ HE.out.wr).mono ?_
   rintro e wB ⟨rfl, hw⟩
   obtain rfl := hw.symm
   go_wp2_with fail
   go_ret2
   exact ⟨rfl, HE.out.ts.bel⟩
end Go.Proofs.Ytgakmnholegbgaa.B
end
section
namespace Go.Proofs.Ytgakmnholegbgaa.B
open Go.RowKit Go.Proofs.YtgakmnholegbgaaW.PrintWords
theorem toBits_getD (n v i : Nat) (h : i < n) : (toBits n v).getD i false = v.testBit (n - 1 - i) := by
 induction n generalizing i with
 | zero => omega
 | succ n ih =>
  cases i with
  | zero => simp [toBits]
  | succ i =>
   simp only [toBits, List.getD_cons_succ]
   rw [ih i (by omega), show n + 1 - 1 - (i + 1) = n - 1 - i by omega]
theorem valOf_testBit (l : List Bool) (i : Nat) (h : i < l.length) : (valOf l).testBit (l.length - 1 - i) = l.getD i false := by
 rw [← toBits_getD l.length (valOf l) i h, toBits_valOf]
theorem bt_str (xs : List Int) (j : Nat) (h : j < xs.length) (hx : ∀ x ∈ xs, 0 ≤ x ∧ x < 256) : bt (strOfNums xs) (j : Int) = xs.getD j 0 := by
 have hs : j < (strOfNums xs).size := by rw [strOfNums_size]; exact h
 have e : ((strOfNums xs)[j]'hs) = UInt8.ofNat (xs[j]).toNat := by
  show (strOfNums xs).data[j]'hs = _
  simp [strOfNums]
 have hx' := hx _ (List.getElem_mem h)
 unfold bt
 rw [dif_pos (by simpa using hs)]
 have e2 : ((strOfNums xs)[((j : Int)).toNat]'(by simpa using hs)) = UInt8.ofNat (xs[j]).toNat := e
 rw [e2, List.getD_eq_getElem?_getD, List.getElem?_eq_getElem h]
 simp
 omega
def txt (l : List Bool) : ByteArray := strOfNums (packI l)
theorem txt_size (l : List Bool) : (txt l).size = (l.length + 7) / 8 := by unfold txt; rw [strOfNums_size, packI_length]
theorem packI_range (l : List Bool) : ∀ x ∈ packI l, 0 ≤ x ∧ x < 256 := by
 intro x hx
 simp only [packI, pack, List.map_map, List.mem_map, List.mem_range, Function.comp] at hx
 obtain ⟨j, _, rfl⟩ := hx
 have := byteAt_lt l j
 omega
theorem byteN_txt (l : List Bool) (j : Nat) (h : j < (l.length + 7) / 8) : byteN (txt l) j = byteAt l j := by
 unfold byteN txt
 rw [bt_str _ j (by rw [packI_length]; exact h) (packI_range l)]
 have := rd_packI l j h
 unfold rd at this
 simp only [Int.toNat_natCast] at this
 rw [this, Int.toNat_natCast]
theorem bitN_txt (l : List Bool) (i : Nat) (h : i < l.length) : bitN (txt l) i = l.getD i false := by
 unfold bitN
 rw [byteN_txt l _ (by omega)]
 unfold byteAt
 have hl : ((List.range 8).map fun k => l.getD (8 * (i / 8) + k) false).length = 8 := by simp
 have := valOf_testBit ((List.range 8).map fun k => l.getD (8 * (i / 8) + k) false) (i % 8) (by rw [hl]; omega)
 rw [hl] at this
 rw [show 7 - i % 8 = 8 - 1 - i % 8 by omega, this]
 have h8 : i % 8 < 8 := by omega
 rw [List.getD_eq_getElem?_getD, List.getElem?_map, List.getElem?_range h8]
 simp only [Option.map_some, Option.getD_some]
 rw [show 8 * (i / 8) + i % 8 = i by omega]
theorem rdBits_txt (pre post : List Bool) (v : Nat) : ∀ n, rdBits (txt (pre ++ toBits n v ++ post)) pre.length n = v % 2 ^ n := by
 intro n
 have key : ∀ k, k ≤ n → rdBits (txt (pre ++ toBits n v ++ post)) pre.length k = v % 2 ^ n / 2 ^ (n - k) := by
  intro k
  induction k with
  | zero =>
   intro _
   rw [rdBits, Nat.sub_zero]
   exact (Nat.div_eq_of_lt (Nat.mod_lt _ (Nat.two_pow_pos n))).symm
  | succ k ih =>
   intro hk
   rw [rdBits, ih (by omega), bitN_txt _ _ (by rw [List.length_append, List.length_append, toBits_length]; omega)]
   have e : (pre ++ toBits n v ++ post).getD (pre.length + k) false = v.testBit (n - 1 - k) := by
    rw [List.append_assoc, List.getD_eq_getElem?_getD, List.getElem?_append_right (by omega), show pre.length + k - pre.length = k by omega, List.getElem?_append_left (by rw [toBits_length]; omega), ← List.getD_eq_getElem?_getD, toBits_getD n v k (by omega)]
   rw [e]
   have e2 : n - k = (n - (k + 1)) + 1 := by omega
   rw [e2, Nat.pow_succ, ← Nat.div_div_eq_div_mul]
   have e3 : (v.testBit (n - 1 - k)).toNat = v % 2 ^ n / 2 ^ (n - (k + 1)) % 2 := by
    rw [show n - 1 - k = n - (k + 1) by omega]
    have : (v % 2 ^ n).testBit (n - (k + 1)) = v.testBit (n - (k + 1)) := by rw [Nat.testBit_mod_two_pow]; simp; omega
    rw [← this, Nat.testBit_eq_decide_div_mod_eq]
    rcases Nat.mod_two_eq_zero_or_one (v % 2 ^ n / 2 ^ (n - (k + 1))) with h | h <;> simp [h]
   rw [e3]
   omega
 have := key n (Nat.le_refl _)
 rw [this]
 simp
theorem rdBits_txt' (l pre post : List Bool) (v n a : Nat) (h : l = pre ++ (toBits n v ++ post)) (ha : a = pre.length) (hv : v < 2 ^ n) : rdBits (txt l) a n = v := by
 subst h ha
 rw [← List.append_assoc, rdBits_txt, Nat.mod_eq_of_lt hv]
end Go.Proofs.Ytgakmnholegbgaa.B
end
section
namespace Go.Proofs.Ytgakmnholegbgaa.B
open Go.RowKit Go.Proofs.YtgakmnholegbgaaW.PrintWords Go.Proofs.YtgakmnholegbgaaW.PrintLast Go.Proofs.YtgakmnholegbgaaW.PrintMore
set_option linter.unusedVariables false
set_option linter.unusedSimpArgs false
def flatF (l : List (Nat × Nat)) : List Bool := l.flatMap fun x => toBits x.1 x.2
theorem flatF_length (l : List (Nat × Nat)) : (flatF l).length = (l.map (·.1)).sum := by
 induction l with
 | nil => rfl
 | cons x l ih => simp only [flatF, List.flatMap_cons, List.length_append, toBits_length, List.map_cons, List.sum_cons] at ih ⊢; omega
theorem rd_flat (A C : List (Nat × Nat)) (n v a : Nat) (ha : a = (A.map (·.1)).sum) (hv : v < 2 ^ n) : rdBits (txt (flatF (A ++ (n, v) :: C))) a n = v :=
 rdBits_txt' _ (flatF A) (flatF C) v n a (by simp [flatF]) (by rw [flatF_length, ha]) hv
def tF (f k S : Nat) : List (Nat × Nat) := [(32, 0), (32, 0), (16, f), (16, 3), (1, 1), (2, 0), (13, k), (1, 1), (2, 3), (13, 8191), (1, 0), (2, 0), (13, 0), (16, 0), (32, S)]
theorem eE_flat (f k S : Nat) : eE f k S = flatF (tF f k S) := by
 have h16 : List.replicate ((32 - 144 % 32) % 32) false = toBits 16 0 := by decide
 unfold eE eA
 rw [eM3_len, h16]
 simp only [eM3, eM2, eM1, eB, eH, List.nil_append, List.append_assoc, flatF, tF, List.flatMap_cons, List.flatMap_nil, List.append_nil]
def tB (f k S : Nat) : ByteArray := txt (flatF (tF f k S))
theorem tB_size (f k S : Nat) : (tB f k S).size = 24 := by
 unfold tB
 rw [txt_size, flatF_length]
 simp [tF]
theorem tB_is (f k S : Nat) : strOfNums (packI (eE f k S)) = tB f k S := by rw [eE_flat]; rfl
def tM (k : Nat) : List M3 := [(true, 0, (k : Int)), (true, 3, 8191), (false, 0, 0)]
theorem tB_reads (f k S : Nat) (hf : f ≤ 65535) (hk : k ≤ 8189) (hS : S ≤ 4294967295) :
    rdBits (tB f k S) 0 32 = 0 ∧ rdBits (tB f k S) 32 32 = 0 ∧ rdBits (tB f k S) 64 16 = f ∧ rdBits (tB f k S) 80 16 = 3 ∧ rdBits (tB f k S) 144 16 = 0 ∧ rdBits (tB f k S) 160 32 = S ∧
      rdBits (tB f k S) 96 1 = 1 ∧ rdBits (tB f k S) 97 2 = 0 ∧ rdBits (tB f k S) 99 13 = k ∧ rdBits (tB f k S) 112 1 = 1 ∧ rdBits (tB f k S) 113 2 = 3 ∧ rdBits (tB f k S) 115 13 = 8191 ∧ rdBits (tB f k S) 128 1 = 0 ∧ rdBits (tB f k S) 129 2 = 0 ∧ rdBits (tB f k S) 131 13 = 0 :=
  ⟨rd_flat [] _ 32 0 0 rfl (by decide),
   rd_flat [(32, 0)] _ 32 0 32 rfl (by decide),
   rd_flat [(32, 0), (32, 0)] _ 16 f 64 rfl (by omega),
   rd_flat [(32, 0), (32, 0), (16, f)] _ 16 3 80 rfl (by decide),
   rd_flat [(32, 0), (32, 0), (16, f), (16, 3), (1, 1), (2, 0), (13, k), (1, 1), (2, 3), (13, 8191), (1, 0), (2, 0), (13, 0)] _ 16 0 144 rfl (by decide),
   rd_flat [(32, 0), (32, 0), (16, f), (16, 3), (1, 1), (2, 0), (13, k), (1, 1), (2, 3), (13, 8191), (1, 0), (2, 0), (13, 0), (16, 0)] _ 32 S 160 rfl (by omega),
   rd_flat [(32, 0), (32, 0), (16, f), (16, 3)] _ 1 1 96 rfl (by decide),
   rd_flat [(32, 0), (32, 0), (16, f), (16, 3), (1, 1)] _ 2 0 97 rfl (by decide),
   rd_flat [(32, 0), (32, 0), (16, f), (16, 3), (1, 1), (2, 0)] _ 13 k 99 rfl (by omega),
   rd_flat [(32, 0), (32, 0), (16, f), (16, 3), (1, 1), (2, 0), (13, k)] _ 1 1 112 rfl (by decide),
   rd_flat [(32, 0), (32, 0), (16, f), (16, 3), (1, 1), (2, 0), (13, k), (1, 1)] _ 2 3 113 rfl (by decide),
   rd_flat [(32, 0), (32, 0), (16, f), (16, 3), (1, 1), (2, 0), (13, k), (1, 1), (2, 3)] _ 13 8191 115 rfl (by decide),
   rd_flat [(32, 0), (32, 0), (16, f), (16, 3), (1, 1), (2, 0), (13, k), (1, 1), (2, 3), (13, 8191)] _ 1 0 128 rfl (by decide),
   rd_flat [(32, 0), (32, 0), (16, f), (16, 3), (1, 1), (2, 0), (13, k), (1, 1), (2, 3), (13, 8191), (1, 0)] _ 2 0 129 rfl (by decide),
   rd_flat [(32, 0), (32, 0), (16, f), (16, 3), (1, 1), (2, 0), (13, k), (1, 1), (2, 3), (13, 8191), (1, 0), (2, 0)] _ 13 0 131 rfl (by decide)⟩
theorem tB_metrs (f k S : Nat) (hf : f ≤ 65535) (hk : k ≤ 8189) (hS : S ≤ 4294967295) : metrs (tB f k S) 96 3 = tM k := by
 obtain ⟨_, _, _, _, _, _, m0, m1, m2, m3, m4, m5, m6, m7, m8⟩ := tB_reads f k S hf hk hS
 generalize tB f k S = s at *
 have h : metrs s 96 3 = [metr s 96, metr s 112, metr s 128] := by simp [metrs, List.range_succ]
 rw [h]
 simp [metr, tM, m0, m1, m2, m3, m4, m5, m6, m7, m8]
theorem tB_ccfb (f k S : Nat) (hf : f ≤ 65535) (hk : k ≤ 8189) (hS : S ≤ 4294967295) : ccfbP (tB f k S) = ((0, [(0, (f : Int), tM k)], (S : Int)), 0) := by
 obtain ⟨r0, r1, r2, r3, r4, r5, _⟩ := tB_reads f k S hf hk hS
 have hm := tB_metrs f k S hf hk hS
 have hz := tB_size f k S
 generalize tB f k S = s at *
 have he : blockErr s 32 = 0 := by
  unfold blockErr
  rw [hz, show (32 + 48) = 80 by omega, r3, show 32 + 64 = 96 by omega, hm, show 96 + 16 * 3 = 144 by omega, r4]
  rw [if_neg (by omega), if_neg (by omega), if_neg (by omega), if_neg (by simp [tM, metrOk]), if_neg (by simp)]
 have hb : blockOf s 32 = (0, (f : Int), tM k) := by
  unfold blockOf
  rw [show (32 + 48) = 80 by omega, r3, show 32 + 64 = 96 by omega, hm, show 32 + 32 = 64 by omega, r2, r1]
  rfl
 have hd : blockEnd s 32 = 160 := by
  unfold blockEnd
  rw [show (32 + 48) = 80 by omega, r3]
 have h1 : blksR s 32 0 = .ok ([(0, (f : Int), tM k)], 160) := by
  rw [blksR_go (by omega) (by omega) he, hd, blksR_end (by omega), hb]
  rfl
 rw [ccfbP_ok (by omega) (by omega) (by omega) h1, r0, r5]
 rfl
theorem tB_fd (f k S : Nat) (near : Int) (hf : f ≤ 65535) (hk : k ≤ 8189) (hS : S ≤ 4294967295) :
  fdAll near [(11, 205, tB f k S)] = .ok ([((f : Int) % 65536, true, wrap64 (fromP S near - mdo k 1000000 1024 1), false, false), (((f : Int) + 1) % 65536, true, 0, true, true), (((f : Int) + 2) % 65536, false, 0, false, false)], [], 1) := by
 have hc := tB_ccfb f k S hf hk hS
 have h1 := fd_one1 (near := near) (x := (11, 205, tB f k S)) ⟨rfl, rfl⟩ (by show (ccfbP (tB f k S)).2 = 0; rw [hc])
 have h2 : repsB (fromP (S : Int) near) [(0, (f : Int), tM k)] = [((f : Int) % 65536, true, wrap64 (fromP S near - mdo k 1000000 1024 1), false, false), (((f : Int) + 1) % 65536, true, 0, true, true), (((f : Int) + 2) % 65536, false, 0, false, false)] := by
  have k0 : ¬ (8190 ≤ (k : Int)) := by omega
  have k1 : (k : Int) < 8190 := by omega
  simp [repsB, repsM, tM, List.range_succ, rep1, k0, k1]
 simp only [fdAll, h1]
 rw [show (ccfbP ((11, 205, tB f k S) : P3).2.2) = ((0, [(0, (f : Int), tM k)], (S : Int)), 0) from hc, h2]
 rfl
theorem tB_join (f k S : Nat) : ∃ T, joinP [(11, 205, tB f k S)] = (T, 0) := by
 have hz := tB_size f k S
 have hok : partOk (11, 205, tB f k S) = true := (partOk_iff _).2 ⟨by simp, by simp, by simp, by simp, by simp only [hz], by simp only [hz]; omega⟩
 have hpk : (joinP [(11, 205, tB f k S)]).2 = 0 := by
  unfold joinP
  rw [if_neg (by simp), if_neg, if_neg]
  ·rw [total_cons, total_nil]; unfold sizeP; simp only [hz]; omega
  ·simp [hok]
 exact ⟨_, by rw [← hpk]⟩
theorem times_feed (f k S : Nat) (near : Int) (T : ByteArray) (hf : f ≤ 65535) (hk : k ≤ 8189) (hS : S ≤ 4294967295) (hT : joinP [(11, 205, tB f k S)] = (T, 0)) :
  feedP T near = (([((f : Int) % 65536, true, wrap64 (fromP S (nearF near) - mdo k 1000000 1024 1), false, false), (((f : Int) + 1) % 65536, true, 0, true, true), (((f : Int) + 2) % 65536, false, 0, false, false)], []), 0) := by
 have hs := (split_join _ _ hT).1
 rw [feedP_ok (by rw [hs]) (by rw [hs]; exact tB_fd f k S (nearF near) hf hk hS)]
 rw [if_neg (by omega), if_neg (by simp)]
theorem sgn0 (a b c : Nat) : signB (a : Int) (b : Int) (c : Int) = false := by
 have ha : decide ((a : Int) < 0) = false := decide_eq_false (by omega)
 have hb : decide ((b : Int) < 0) = false := decide_eq_false (by omega)
 have hc : decide ((c : Int) < 0) = false := decide_eq_false (by omega)
 unfold signB
 rw [ha, hb, hc]
 rfl
theorem mdo_dn (a b c : Nat) (hb : a * b ≤ 9223372036854775807) (hc : 0 < c) : mdo (a : Int) (b : Int) (c : Int) 1 = ((a * b / c : Nat) : Int) := by
 unfold mdo quoN
 rw [if_neg (by omega), sgn0, if_neg (by simp)]
 have hu : upB ((a : Int).natAbs * (b : Int).natAbs % (c : Int).natAbs) (c : Int).natAbs false 1 = false := by simp [upB]
 rw [hu]
 simp only [Int.natAbs_natCast, Bool.toNat_false, Nat.add_zero]
 have := Nat.div_le_self (a * b) c
 generalize a * b / c = q at *
 exact hold_in (by omega) (by omega)
theorem mdo_up (a b c : Nat) (hb : a * b ≤ 9223372036854775806) (hc : 0 < c) : mdo (a : Int) (b : Int) (c : Int) 3 = ((a * b / c + (decide (0 < a * b % c)).toNat : Nat) : Int) := by
 unfold mdo quoN
 rw [if_neg (by omega), sgn0, if_neg (by simp)]
 have hu : upB ((a : Int).natAbs * (b : Int).natAbs % (c : Int).natAbs) (c : Int).natAbs false 3 = decide (0 < a * b % c) := by simp [upB]
 rw [hu]
 simp only [Int.natAbs_natCast]
 have := Nat.div_le_self (a * b) c
 have := Bool.toNat_lt (decide (0 < a * b % c))
 generalize a * b / c = q at *
 generalize (decide (0 < a * b % c)).toNat = r at *
 exact hold_in (by omega) (by omega)
theorem times_from (t : Nat) (d : Int) (h0 : 1073741824 ≤ t) (h1 : t ≤ 1100585369600) (hd : -1073741824 ≤ d ∧ d ≤ 1073741824) :
  ∃ X : Int, fromP (((t * 65536 / 1000000) % 4294967296 : Nat) : Int) (nearF ((t : Int) + d)) = X ∧ X ≤ t ∧ (t : Int) - 15 ≤ X := by
 obtain ⟨n, hn⟩ : ∃ n : Nat, (n : Int) = (t : Int) + d := ⟨((t : Int) + d).toNat, by omega⟩
 have e1 : nearF ((t : Int) + d) = (n : Int) := by unfold nearF; omega
 have e2 : nearT (n : Int) = (n : Int) := by unfold nearT; omega
 have e3 : stampP (n : Int) = ((n * 65536 / 1000000 : Nat) : Int) := mdo_dn n 65536 1000000 (by omega) (by omega)
 obtain ⟨V, hV⟩ : ∃ V, V = t * 65536 / 1000000 := ⟨_, rfl⟩
 obtain ⟨L, hL⟩ : ∃ L, L = n * 65536 / 1000000 := ⟨_, rfl⟩
 have e4 : nearP 4294967296 (L : Int) ((V % 4294967296 : Nat) : Int) = (V : Int) := by
  have hf : farP (L : Int) = (L : Int) := by unfold farP; omega
  unfold nearP
  rw [hf]
  split <;> omega
 refine ⟨_, rfl, ?_⟩
 unfold fromP
 rw [e1, e2, e3, ← hL, ← hV, e4, show mdo (V : Int) 1000000 65536 3 = _ from mdo_up V 1000000 65536 (by omega) (by omega)]
 have hB : (decide (0 < V * 1000000 % 65536)).toNat = if V * 1000000 % 65536 = 0 then 0 else 1 := by
  by_cases h : V * 1000000 % 65536 = 0
  ·simp [h]
  ·rw [if_neg h, decide_eq_true (by omega)]; rfl
 rw [hB]
 split <;> omega
end Go.Proofs.Ytgakmnholegbgaa.B
end
section
namespace Go.Proofs.Ytgakmnholegbgaa.B
open Go.RowKit Go.Proofs.YtgakmnholegbgaaW.PrintWords Go.Proofs.YtgakmnholegbgaaW.PrintLast Go.Proofs.YtgakmnholegbgaaW.PrintMore
set_option linter.unusedVariables false
set_option linter.unusedSimpArgs false
def allocN : Nat → World → Obj → World
 | 0, w, _ => w
 | n + 1, w, o => (allocN n w o).alloc o
theorem allocN_size (n : Nat) (w : World) (o : Obj) : (allocN n w o).heap.size = w.heap.size + n := by
 induction n with
 | zero => rfl
 | succ n ih => simp only [allocN]; rw [show ∀ v : World, (v.alloc o).heap.size = v.heap.size + 1 from fun v => by simp, ih]; omega
theorem sx_alloc {w : World} {o : Obj} {b i : Nat} {v : Value} (n : Nat) (hb : b < w.heap.size) (h : w.cell? ⟨b, i, none⟩ = some v) : (allocN n w o).cell? ⟨b, i, none⟩ = some v := by
 induction n with
 | zero => exact h
 | succ n ih => exact (World.cell?_alloc_past _ _ _ (by rw [allocN_size]; show b < _; omega)).trans ih
theorem sx_below {w w' : World} {B b i : Nat} {v : Value} (hB : Below B w w') (hb : b < B) (h : w.cell? ⟨b, i, none⟩ = some v) : w'.cell? ⟨b, i, none⟩ = some v := (World.cell?_of_block (a := ⟨b, i, none⟩) (hB.block b hb)).trans h
theorem bz3 (w : World) (o : Obj) (i : Nat) (hi : i < 3) : (((w.alloc o).alloc o).alloc o).heap[w.heap.size + i]? = some o := by
 have s1 : (w.alloc o).heap.size = w.heap.size + 1 := by simp
 have s2 : ((w.alloc o).alloc o).heap.size = w.heap.size + 2 := by simp
 rcases (show i = 0 ∨ i = 1 ∨ i = 2 by omega) with rfl | rfl | rfl
 ·exact (Below.heap_alloc _ o _ (by rw [s2]; omega)).trans ((Below.heap_alloc _ o _ (by rw [s1]; omega)).trans (blk_new w o))
 ·have h := blk_new (w.alloc o) o
  rw [s1] at h
  exact (Below.heap_alloc _ o _ (by rw [s2]; omega)).trans h
 ·have h := blk_new ((w.alloc o).alloc o) o
  rw [s2] at h
  exact h
abbrev S5 (w w' : World) (p : Nat) (v0 v1 v2 v3 v4 : Value) : Prop := w' = ((((w.setCell ⟨p, 0, none⟩ v0).setCell ⟨p, 1, none⟩ v1).setCell ⟨p, 2, none⟩ v2).setCell ⟨p, 3, none⟩ v3).setCell ⟨p, 4, none⟩ v4
theorem st5_at {w w' : World} {p : Nat} {T : TypeId} {a0 a1 a2 a3 a4 v0 v1 v2 v3 v4 : Value} (h : w.heap[p]? = some (.cells #[a0, a1, a2, a3, a4] T (0, 0))) (hw : S5 w w' p v0 v1 v2 v3 v4) : w'.heap[p]? = some (.cells #[v0, v1, v2, v3, v4] T (0, 0)) := by
 have h1 := blk_set (blk_set (blk_set (blk_set (blk_set h 0 v0) 1 v1) 2 v2) 3 v3) 4 v4
 rw [hw]
 exact h1
theorem st5_far {w w' : World} {p k : Nat} {T : TypeId} {cs : Array Value} {v0 v1 v2 v3 v4 : Value} (hne : k ≠ p) (h : w.heap[k]? = some (.cells cs T (0, 0))) (hw : S5 w w' p v0 v1 v2 v3 v4) : w'.heap[k]? = some (.cells cs T (0, 0)) := by
 rw [hw]
 exact blk_far (blk_far (blk_far (blk_far (blk_far h (p := ⟨p, 0, none⟩) hne v0) (p := ⟨p, 1, none⟩) hne v1) (p := ⟨p, 2, none⟩) hne v2) (p := ⟨p, 3, none⟩) hne v3) (p := ⟨p, 4, none⟩) hne v4
theorem st5_below {a w w' : World} {B p : Nat} {v0 v1 v2 v3 v4 : Value} (hp : B ≤ p) (h : Below B a w) (hw : S5 w w' p v0 v1 v2 v3 v4) : Below B a w' := by
 rw [hw]
 exact ((((h.setCell (p := ⟨p, 0, none⟩) hp _).setCell (p := ⟨p, 1, none⟩) hp _).setCell (p := ⟨p, 2, none⟩) hp _).setCell (p := ⟨p, 3, none⟩) hp _).setCell (p := ⟨p, 4, none⟩) hp _
theorem stamp12_any (t : Nat) (w : World) (ht : t ≤ 1100585369600) : Calls Try.prog 14 #[.int .i64 (t : Int)] w fun e w' => e = .returned (.int .u32 (((t * 65536 / 1000000) % 4294967296 : Nat) : Int)) ∧ w' = w := by
 obtain ⟨V, hV⟩ : ∃ V, V = (t * 65536 / 1000000) % 4294967296 := ⟨_, rfl⟩
 rw [← hV]
 have HV := Aside0.mk hV
 clear hV
 go_enter Try.func14, Try.ntmps14
 go_wp2_with fail
 go_ret
 refine ⟨?_, rfl⟩
 have e := HV.out
 have e2 : ((t : Int) / 1000000 * 65536 + (t : Int) % 1000000 * 65536 / 1000000) = ((t * 65536 / 1000000 : Nat) : Int) := by omega
 exact congrArg (fun x => Ending.returned (.int .u32 x)) (by rw [e2]; omega)
end Go.Proofs.Ytgakmnholegbgaa.B
end
section
namespace Go.Proofs.Ytgakmnholegbgaa.B
open Go.RowKit Go.Proofs.YtgakmnholegbgaaW.PrintWords Go.Proofs.YtgakmnholegbgaaW.PrintLast Go.Proofs.YtgakmnholegbgaaW.PrintMore
set_option linter.unusedVariables false
set_option linter.unusedSimpArgs false
set_option maxHeartbeats 16000000 in
set_option maxRecDepth 100000 in
theorem feedTimes_neg (a : Int) (ago seq : Nat) (near : Int) (w : World) (ha : I64 a) (h1 : ago ≤ 65535) (h2 : seq ≤ 65535) (hn : -2147483648 ≤ near ∧ near ≤ 2147483647) (hs0 : Int.tmod a 1099511627776 < 0) : Calls Try.prog 5 #[.int .i64 a, .agg #[.int .u16 ago, .int .u16 seq], .int .i32 near] w fun e w' => e = .returned (.bool true) ∧ Below w.heap.size w w' := by
 have HS0 := Aside0.mk hs0
 clear hs0
 have H1 := Aside0.mk (blk_new w (.cells #[.int .u16 ago, .int .u16 seq] 43))
 have HB := Aside0.mk ((Below.refl w.heap.size w).alloc (Nat.le_refl _) (.cells #[.int .u16 ago, .int .u16 seq] 43))
 go_enter Try.func5, Try.ntmps5
 go_upto_region 1 with fail
 obtain ⟨g1, hg1⟩ : ∃ g, g = w.heap.size := ⟨_, rfl⟩
 rw [← hg1] at H1 ⊢
 clear hg1
 generalize w.alloc (.cells #[.int .u16 ago, .int .u16 seq] 43) = w1 at *
 have c0 := blk_cell H1.out 0
 have c1 := blk_cell H1.out 1
 simp only [List.getElem?_toArray, List.getElem?_cons_zero, List.getElem?_cons_succ] at c0 c1
 go_wp2_with fail
 go_region
 clear c0 c1
 replace HB := Aside0.mk HB.out.drew
 generalize w1.drew = w2 at *
 go_upto_region 3 with fail
 obtain ⟨x, hx⟩ : ∃ x, x = Int.tmod a 1099511627776 := ⟨_, rfl⟩
 have hxb : -1099511627776 < x ∧ x < 1099511627776 := by
  rcases Int.le_total 0 a with h | h
  ·rw [Int.tmod_eq_emod_of_nonneg h] at hx; omega
  ·have e := Int.neg_tmod (a := -a) (b := 1099511627776)
   rw [Int.neg_neg, Int.tmod_eq_emod_of_nonneg (a := -a) (by omega)] at e
   omega
 have hs : x < 0 := by have h_ := HS0.out; rw [hx]; omega
 rw [← hx]
 clear HS0
 clear hx ha
 obtain ⟨t, ht⟩ : ∃ t : Nat, (t : Int) = (if x < 0 then -x else x) + 1073741824 := ⟨((if x < 0 then -x else x) + 1073741824).toNat, by split <;> omega⟩
 have ht0 : 1073741824 ≤ t ∧ t ≤ 1100585369600 := by split at ht <;> omega
 rw [if_pos hs] at ht
 have q1 : decide (x < 0) = true := decide_eq_true hs
 go_upto_region 6 with fail
 rw [← ht]
 clear ht hs q1 hxb
 obtain ⟨k, hk⟩ : ∃ k, k = ago % 8190 := ⟨_, rfl⟩
 have hk1 : k ≤ 8189 := by omega
 have ek : (ago : Int) % 8190 = (k : Int) := by omega
 go_upto_region 7 with fail
 rw [ek]
 clear ek hk
 have KM := Aside0.mk ((Below.heap_alloc (w2.alloc (.cells #[.bool true, .int .i64 0, .int .i64 k, .bool true, .int .i64 3, .int .i64 8191, .bool false, .int .i64 0, .int .i64 0] 45)) (.cells #[.int .u32 0, .int .i64 seq, .slice (some ⟨w2.heap.size, 0, none⟩) 3 3] 49) w2.heap.size (by simp)).trans (blk_new w2 (.cells #[.bool true, .int .i64 0, .int .i64 k, .bool true, .int .i64 3, .int .i64 8191, .bool false, .int .i64 0, .int .i64 0] 45)))
 have KB0 := blk_new (w2.alloc (.cells #[.bool true, .int .i64 0, .int .i64 k, .bool true, .int .i64 3, .int .i64 8191, .bool false, .int .i64 0, .int .i64 0] 45)) (.cells #[.int .u32 0, .int .i64 seq, .slice (some ⟨w2.heap.size, 0, none⟩) 3 3] 49)
 rw [show (w2.alloc (.cells #[.bool true, .int .i64 0, .int .i64 k, .bool true, .int .i64 3, .int .i64 8191, .bool false, .int .i64 0, .int .i64 0] 45)).heap.size = w2.heap.size + 1 by simp] at KB0
 have KB := Aside0.mk KB0
 clear KB0
 replace HB := Aside0.mk ((HB.out.alloc HB.out.size (.cells #[.bool true, .int .i64 0, .int .i64 k, .bool true, .int .i64 3, .int .i64 8191, .bool false, .int .i64 0, .int .i64 0] 45)))
 replace HB := Aside0.mk ((HB.out.alloc HB.out.size (.cells #[.int .u32 0, .int .i64 seq, .slice (some ⟨w2.heap.size, 0, none⟩) 3 3] 49)))
 go_wp2_with fail
 obtain ⟨gb, hgb⟩ : ∃ g, g = w2.heap.size + 1 := ⟨_, rfl⟩
 rw [← hgb] at KB ⊢
 obtain ⟨gm, hgm⟩ : ∃ g, g = w2.heap.size := ⟨_, rfl⟩
 rw [← hgm] at KM KB HB ⊢
 clear hgb hgm
 generalize (w2.alloc (.cells #[.bool true, .int .i64 0, .int .i64 k, .bool true, .int .i64 3, .int .i64 8191, .bool false, .int .i64 0, .int .i64 0] 45)).alloc (.cells #[.int .u32 0, .int .i64 seq, .slice (some ⟨gm, 0, none⟩) 3 3] 49) = w3 at *
 have CS := stamp12_any t w3 ht0.2
 obtain ⟨S, hS⟩ : ∃ S, S = (t * 65536 / 1000000) % 4294967296 := ⟨_, rfl⟩
 have hS1 : S ≤ 4294967295 := by omega
 rw [← hS] at CS
 obtain ⟨d, hd⟩ : ∃ d, d = Int.tdiv near 2 := ⟨_, rfl⟩
 have hd1 : -1073741824 ≤ d ∧ d ≤ 1073741824 := by
  rw [hd]
  rcases Int.le_total 0 near with h | h
  ·rw [Int.tdiv_eq_ediv_of_nonneg h]; omega
  ·have e := Int.neg_tdiv (a := -near) (b := 2)
   rw [Int.neg_neg, Int.tdiv_eq_ediv_of_nonneg (a := -near) (by omega)] at e
   omega
 obtain ⟨T, hT⟩ := tB_join seq k S
 have hF := times_feed seq k S (t + d) T h2 hk1 hS1 hT
 obtain ⟨X, hX, hX1, hX2⟩ := times_from t d ht0.1 ht0.2 hd1
 rw [← hS] at hX
 rw [hX] at hF
 have hm : mdo k 1000000 1024 1 = ((k * 1000000 / 1024 : Nat) : Int) := mdo_dn k 1000000 1024 (by omega) (by omega)
 obtain ⟨A, hA⟩ : ∃ A, A = wrap64 (X - mdo k 1000000 1024 1) := ⟨_, rfl⟩
 rw [← hA, show (seq : Int) % 65536 = (seq : Int) by omega] at hF
 have hA1 : A ≤ (t : Int) - (k : Int) * 1000000 / 1024 ∧ (t : Int) - (k : Int) * 1000000 / 1024 - 15 ≤ A := by
  obtain ⟨Q, hQ⟩ : ∃ Q, Q = k * 1000000 / 1024 := ⟨_, rfl⟩
  have hQ1 : Q ≤ 8000000 := by omega
  have hQ2 : (k : Int) * 1000000 / 1024 = (Q : Int) := by omega
  rw [hA, hm, hQ2, ← hQ]
  have e : wrap64 (X - (Q : Int)) = X - (Q : Int) := by unfold wrap64; omega
  rw [e]
  omega
 have hTs : T.size ≤ 65536 := joinT_size hT
 have hBz := tB_size seq k S
 have CE := Aside0.mk (fun w0 km kb => times_encode w0 gb gm seq k S h2 hk1 hS1 km kb)
 rw [tB_is] at CE
 generalize tB seq k S = B at *
 have HT := Aside0.mk hT
 have HX := Aside0.mk hA1
 have CF := Aside0.mk (fun w0 => read_any_F T ((t : Int) + d) w0 (by omega) (by unfold I64; omega))
 unfold FeedPost at CF
 rw [hF] at CF
 dsimp only at CF
 clear hS hX hX1 hX2 hm hA hA1 hF hT
 refine CS.mono ?_
 rintro e w4 ⟨rfl, hw⟩
 obtain rfl := hw.symm
 clear CS
 have K11 := Aside0.mk (blk_new w3 (.cells #[.int .u32 0, .slice (some ⟨gb, 0, none⟩) 1 1, .int .u32 S] 53))
 replace KM := Aside0.mk ((Below.heap_alloc w3 (.cells #[.int .u32 0, .slice (some ⟨gb, 0, none⟩) 1 1, .int .u32 S] 53) gm (blk_lt KM.out)).trans KM.out)
 replace KB := Aside0.mk ((Below.heap_alloc w3 (.cells #[.int .u32 0, .slice (some ⟨gb, 0, none⟩) 1 1, .int .u32 S] 53) gb (blk_lt KB.out)).trans KB.out)
 replace HB := Aside0.mk (HB.out.alloc HB.out.size (.cells #[.int .u32 0, .slice (some ⟨gb, 0, none⟩) 1 1, .int .u32 S] 53))
 go_upto_region 8 with fail
 obtain ⟨g11, hg11⟩ : ∃ g, g = w3.heap.size := ⟨_, rfl⟩
 rw [← hg11] at K11 ⊢
 clear hg11
 generalize w3.alloc (.cells #[.int .u32 0, .slice (some ⟨gb, 0, none⟩) 1 1, .int .u32 S] 53) = w5 at *
 have c0 := blk_cell K11.out 0
 have c1 := blk_cell K11.out 1
 have c2 := blk_cell K11.out 2
 simp only [List.getElem?_toArray, List.getElem?_cons_zero, List.getElem?_cons_succ] at c0 c1 c2
 go_wp2_with fail
 refine (CE.out w5 KM.out KB.out).mono ?_
 rintro e w6 ⟨rfl, hb⟩
 replace HB := Aside0.mk (HB.out.trans (hb.mono HB.out.size))
 clear hb c0 c1 c2 K11 KM KB CE
 go_upto_region 9 with fail
 have HR2 := Aside0.mk (row_new w6 [(11, 205, B)] 1 rfl (by decide) #[.int .i64 11, .int .i64 205, .string B] rfl)
 have CJ := Aside0.mk (rjoin_any (some ⟨w6.heap.size, 0, none⟩) 1 [(11, 205, B)] (w6.alloc (.cells #[.int .i64 11, .int .i64 205, .string B] 56)) (by simp) (PartsAt.of_row HR2.out rfl).2.1 (by
  intro x hx
  have : x = (11, 205, B) := by simpa using hx
  rw [this]
  show B.size ≤ _
  omega))
 rw [HT.out] at CJ
 go_wp2_with fail
 refine CJ.out.mono ?_
 rintro e w7 ⟨rfl, hb⟩
 replace HB := Aside0.mk ((HB.out.alloc HB.out.size (.cells #[.int .i64 11, .int .i64 205, .string B] 56)).trans (hb.mono (HB.out.alloc HB.out.size _).size))
 clear hb CJ HR2
 go_upto_region 10 with fail
 have HD := Aside0.mk hd
 clear hd
 go_wp2_with fail
 rw [← HD.out, show wrap64 ((t : Int) + d) = (t : Int) + d by unfold wrap64; omega]
 refine (CF.out w7).mono ?_
 rintro e w8 ⟨vR, vA, rfl, hR, hA, hb⟩
 obtain ⟨A1, c1_, rfl, -, -⟩ := hA.form
 obtain ⟨L, hL⟩ : ∃ L, L = repV [((seq : Int), true, A, false, false), (((seq : Int) + 1) % 65536, true, 0, true, true), (((seq : Int) + 2) % 65536, false, 0, false, false)] := ⟨_, rfl⟩
 rw [← hL] at hR
 have hRl := fun k hk => (hR.lt (k := k) hk).1
 obtain ⟨_, ⟨rfl, h0⟩ | ⟨g, off, cap, rfl, _, _, _, _, hx, _⟩⟩ := hR
 ·cases h0
 have hg : g < w8.heap.size := hRl g rfl
 clear hRl
 have HX8 := Aside0.mk hx
 have HL := Aside0.mk hL
 replace HB := Aside0.mk (HB.out.trans (hb.mono HB.out.size))
 have K16 := Aside0.mk (blk_new w8 (.cells #[.slice (some ⟨g, off, none⟩) 3 cap, .slice A1 0 c1_] 26))
 have HX9 : Aside0 (∀ (j : Nat) (u : Value), L[j]? = some u → (w8.alloc (.cells #[.slice (some ⟨g, off, none⟩) 3 cap, .slice A1 0 c1_] 26)).cell? ⟨g, off + j, none⟩ = some u) := ⟨fun j u hj => (World.cell?_alloc_past _ _ _ hg).trans (HX8.out j u hj)⟩
 replace hg : g < (w8.alloc (.cells #[.slice (some ⟨g, off, none⟩) 3 cap, .slice A1 0 c1_] 26)).heap.size := by simp; omega
 replace HB := Aside0.mk (HB.out.alloc HB.out.size (.cells #[.slice (some ⟨g, off, none⟩) 3 cap, .slice A1 0 c1_] 26))
 clear hx hL hA hb HX8 CF
 go_upto_region 11 with fail
 obtain ⟨g16, hg16⟩ : ∃ g, g = w8.heap.size := ⟨_, rfl⟩
 rw [← hg16] at K16 ⊢
 clear hg16
 generalize w8.alloc (.cells #[.slice (some ⟨g, off, none⟩) 3 cap, .slice A1 0 c1_] 26) = w9 at *
 have x0 := blk_cell K16.out 0
 simp only [List.getElem?_toArray, List.getElem?_cons_zero, List.getElem?_cons_succ] at x0
 go_upto_region 13 with fail
 rw [HL.out] at HX9
 replace HX9 : Aside0 (∀ (j : Nat) (u : Value), (repV [((seq : Int), true, A, false, false), (((seq : Int) + 1) % 65536, true, 0, true, true), (((seq : Int) + 2) % 65536, false, 0, false, false)])[j]? = some u → w9.drew.cell? ⟨g, off + j, none⟩ = some u) := ⟨fun j u hj => HX9.out j u hj⟩
 replace HB := Aside0.mk HB.out.drew
 replace K16 : Aside0 (w9.drew.heap[g16]? = some (.cells #[.slice (some ⟨g, off, none⟩) 3 cap, .slice A1 0 c1_] 26 (0, 0))) := ⟨K16.out⟩
 replace hg : g < w9.drew.heap.size := hg
 clear x0
 go_wp2_with fail
 have hg16 : g16 < w9.drew.heap.size := blk_lt K16.out
 have x0 := blk_cell (w := w9.drew) K16.out 0
 simp only [List.getElem?_toArray, List.getElem?_cons_zero, List.getElem?_cons_succ] at x0
 have r0 : w9.drew.cell? ⟨g, off, none⟩ = some (.int .i64 seq) := HX9.out 0 _ rfl
 have r1 : w9.drew.cell? ⟨g, off + 1, none⟩ = some (.bool true) := HX9.out 1 _ rfl
 have r2 : w9.drew.cell? ⟨g, off + 2, none⟩ = some (.int .i64 A) := HX9.out 2 _ rfl
 have r3 : w9.drew.cell? ⟨g, off + 3, none⟩ = some (.bool false) := HX9.out 3 _ rfl
 have r4 : w9.drew.cell? ⟨g, off + 4, none⟩ = some (.bool false) := HX9.out 4 _ rfl
 have r5 : w9.drew.cell? ⟨g, off + 5, none⟩ = some (.int .i64 (((seq : Int) + 1) % 65536)) := HX9.out 5 _ rfl
 have r6 : w9.drew.cell? ⟨g, off + 5 + 1, none⟩ = some (.bool true) := HX9.out 6 _ rfl
 have r7 : w9.drew.cell? ⟨g, off + 5 + 2, none⟩ = some (.int .i64 0) := HX9.out 7 _ rfl
 have r8 : w9.drew.cell? ⟨g, off + 5 + 3, none⟩ = some (.bool true) := HX9.out 8 _ rfl
 have r9 : w9.drew.cell? ⟨g, off + 5 + 4, none⟩ = some (.bool true) := HX9.out 9 _ rfl
 have r10 : w9.drew.cell? ⟨g, off + 10, none⟩ = some (.int .i64 (((seq : Int) + 2) % 65536)) := HX9.out 10 _ rfl
 have r11 : w9.drew.cell? ⟨g, off + 10 + 1, none⟩ = some (.bool false) := HX9.out 11 _ rfl
 have r12 : w9.drew.cell? ⟨g, off + 10 + 2, none⟩ = some (.int .i64 0) := HX9.out 12 _ rfl
 have r13 : w9.drew.cell? ⟨g, off + 10 + 3, none⟩ = some (.bool false) := HX9.out 13 _ rfl
 have r14 : w9.drew.cell? ⟨g, off + 10 + 4, none⟩ = some (.bool false) := HX9.out 14 _ rfl
 have HBz0 : Below w9.drew.heap.size w9.drew (((w9.drew.alloc (.cells #[.int .i64 0, .bool false, .int .i64 0, .bool false, .bool false] 58)).alloc (.cells #[.int .i64 0, .bool false, .int .i64 0, .bool false, .bool false] 58)).alloc (.cells #[.int .i64 0, .bool false, .int .i64 0, .bool false, .bool false] 58)) := (((Below.refl _ _).alloc (Nat.le_refl _) (.cells #[.int .i64 0, .bool false, .int .i64 0, .bool false, .bool false] 58)).alloc (by simp) (.cells #[.int .i64 0, .bool false, .int .i64 0, .bool false, .bool false] 58)).alloc (by simp; omega) (.cells #[.int .i64 0, .bool false, .int .i64 0, .bool false, .bool false] 58)
 refine start_ (n := 18) (S := fun w' => w'.cell? ⟨g16, 0, none⟩ = some (.slice (some ⟨g, off, none⟩) 3 cap) ∧ w'.cell? ⟨g, off, none⟩ = some (.int .i64 seq) ∧ w'.cell? ⟨g, off + 1, none⟩ = some (.bool true) ∧ w'.cell? ⟨g, off + 2, none⟩ = some (.int .i64 A) ∧ w'.cell? ⟨g, off + 3, none⟩ = some (.bool false) ∧ w'.cell? ⟨g, off + 4, none⟩ = some (.bool false) ∧ w'.cell? ⟨g, off + 5, none⟩ = some (.int .i64 (((seq : Int) + 1) % 65536)) ∧ w'.cell? ⟨g, off + 5 + 1, none⟩ = some (.bool true) ∧ w'.cell? ⟨g, off + 5 + 2, none⟩ = some (.int .i64 0) ∧ w'.cell? ⟨g, off + 5 + 3, none⟩ = some (.bool true) ∧ w'.cell? ⟨g, off + 5 + 4, none⟩ = some (.bool true) ∧ w'.cell? ⟨g, off + 10, none⟩ = some (.int .i64 (((seq : Int) + 2) % 65536)) ∧ w'.cell? ⟨g, off + 10 + 1, none⟩ = some (.bool false) ∧ w'.cell? ⟨g, off + 10 + 2, none⟩ = some (.int .i64 0) ∧ w'.cell? ⟨g, off + 10 + 3, none⟩ = some (.bool false) ∧ w'.cell? ⟨g, off + 10 + 4, none⟩ = some (.bool false)) (ds := [17]) #[false, false, false, false, false, false, false, false, false, false, false, false, false, false, false, false, false, false] (by kernel_rfl) rfl rfl ⟨x0, r0, r1, r2, r3, r4, r5, r6, r7, r8, r9, r10, r11, r12, r13, r14⟩ (fun hHeld => ?_)
 refine pure_ (i := 0) (N := some 79) (v := ?_) (a' := ?_) #[true, false, false, false, false, false, false, false, false, false, false, false, false, false, false, false, false, false] rfl rfl (by kernel_rfl) (fun _ _ _ h => h) (Or.inl ⟨by rfl, ?_⟩) ?_ ?_
 rotate_left
 ·intro w'
  go_simp
  with_reducible rfl
 rotate_left
 ·simp only [Act.put, List.setIfInBounds_toArray, List.set_cons_zero, List.set_cons_succ, i64_w, i32_w]
  rfl
 refine pure_ (i := 4) (N := some 83) (v := ?_) (a' := ?_) #[true, false, false, false, true, false, false, false, false, false, false, false, false, false, false, false, false, false] rfl rfl (by kernel_rfl) (fun _ _ _ h => h) (Or.inl ⟨by rfl, ?_⟩) ?_ ?_
 rotate_left
 ·intro w'
  go_simp
  with_reducible rfl
 rotate_left
 ·simp only [Act.put, List.setIfInBounds_toArray, List.set_cons_zero, List.set_cons_succ, i64_w, i32_w]
  rfl
 refine pure_ (i := 8) (N := some 87) (v := ?_) (a' := ?_) #[true, false, false, false, true, false, false, false, true, false, false, false, false, false, false, false, false, false] rfl rfl (by kernel_rfl) (fun _ _ _ h => h) (Or.inl ⟨by rfl, ?_⟩) ?_ ?_
 rotate_left
 ·intro w'
  go_simp
  with_reducible rfl
 rotate_left
 ·simp only [Act.put, List.setIfInBounds_toArray, List.set_cons_zero, List.set_cons_succ, i64_w, i32_w]
  rfl
 refine take_ (i := 1) (N := some 80) (v := ?_) (a' := ?_) #[true, true, false, false, true, false, false, false, true, false, false, false, false, false, false, false, false, false] rfl rfl (by kernel_rfl) (fun _ _ _ h => h) (Or.inl ⟨by rfl, ?_⟩) hHeld ?_ ?_
 rotate_left
 ·rintro w' ⟨s0, s1, s2, s3, s4, s5, s6, s7, s8, s9, s10, s11, s12, s13, s14, s15⟩
  go_simp
  with_reducible rfl
 rotate_left
 ·simp only [Act.put, List.setIfInBounds_toArray, List.set_cons_zero, List.set_cons_succ, i64_w, i32_w]
  rfl
 refine pure_ (i := 2) (N := some 81) (v := ?_) (a' := ?_) #[true, true, true, false, true, false, false, false, true, false, false, false, false, false, false, false, false, false] rfl rfl (by kernel_rfl) (fun _ _ _ h => h) (Or.inl ⟨by rfl, ?_⟩) ?_ ?_
 rotate_left
 ·intro w'
  go_simp
  with_reducible rfl
 rotate_left
 ·simp only [Act.put, List.setIfInBounds_toArray, List.set_cons_zero, List.set_cons_succ, i64_w, i32_w]
  rfl
 refine take_ (i := 3) (N := some 82) (v := ?_) (a' := ?_) #[true, true, true, true, true, false, false, false, true, false, false, false, false, false, false, false, false, false] rfl rfl (by kernel_rfl) (fun _ _ _ h => h) (Or.inl ⟨by rfl, ?_⟩) hHeld ?_ ?_
 rotate_left
 ·rintro w' ⟨s0, s1, s2, s3, s4, s5, s6, s7, s8, s9, s10, s11, s12, s13, s14, s15⟩
  go_simp
  with_reducible rfl
 rotate_left
 ·simp only [Act.put, List.setIfInBounds_toArray, List.set_cons_zero, List.set_cons_succ, i64_w, i32_w]
  rfl
 refine take_ (i := 5) (N := some 84) (v := ?_) (a' := ?_) #[true, true, true, true, true, true, false, false, true, false, false, false, false, false, false, false, false, false] rfl rfl (by kernel_rfl) (fun _ _ _ h => h) (Or.inl ⟨by rfl, ?_⟩) hHeld ?_ ?_
 rotate_left
 ·rintro w' ⟨s0, s1, s2, s3, s4, s5, s6, s7, s8, s9, s10, s11, s12, s13, s14, s15⟩
  go_simp
  with_reducible rfl
 rotate_left
 ·simp only [Act.put, List.setIfInBounds_toArray, List.set_cons_zero, List.set_cons_succ, i64_w, i32_w]
  rfl
 refine pure_ (i := 6) (N := some 85) (v := ?_) (a' := ?_) #[true, true, true, true, true, true, true, false, true, false, false, false, false, false, false, false, false, false] rfl rfl (by kernel_rfl) (fun _ _ _ h => h) (Or.inl ⟨by rfl, ?_⟩) ?_ ?_
 rotate_left
 ·intro w'
  go_simp
  with_reducible rfl
 rotate_left
 ·simp only [Act.put, List.setIfInBounds_toArray, List.set_cons_zero, List.set_cons_succ, i64_w, i32_w]
  rfl
 refine take_ (i := 7) (N := some 86) (v := ?_) (a' := ?_) #[true, true, true, true, true, true, true, true, true, false, false, false, false, false, false, false, false, false] rfl rfl (by kernel_rfl) (fun _ _ _ h => h) (Or.inl ⟨by rfl, ?_⟩) hHeld ?_ ?_
 rotate_left
 ·rintro w' ⟨s0, s1, s2, s3, s4, s5, s6, s7, s8, s9, s10, s11, s12, s13, s14, s15⟩
  go_simp
  with_reducible rfl
 rotate_left
 ·simp only [Act.put, List.setIfInBounds_toArray, List.set_cons_zero, List.set_cons_succ, i64_w, i32_w]
  rfl
 refine take_ (i := 9) (N := some 88) (v := ?_) (a' := ?_) #[true, true, true, true, true, true, true, true, true, true, false, false, false, false, false, false, false, false] rfl rfl (by kernel_rfl) (fun _ _ _ h => h) (Or.inl ⟨by rfl, ?_⟩) hHeld ?_ ?_
 rotate_left
 ·rintro w' ⟨s0, s1, s2, s3, s4, s5, s6, s7, s8, s9, s10, s11, s12, s13, s14, s15⟩
  go_simp
  with_reducible rfl
 rotate_left
 ·simp only [Act.put, List.setIfInBounds_toArray, List.set_cons_zero, List.set_cons_succ, i64_w, i32_w]
  rfl
 refine pure_ (i := 10) (N := some 89) (v := ?_) (a' := ?_) #[true, true, true, true, true, true, true, true, true, true, true, false, false, false, false, false, false, false] rfl rfl (by kernel_rfl) (fun _ _ _ h => h) (Or.inl ⟨by rfl, ?_⟩) ?_ ?_
 rotate_left
 ·intro w'
  go_simp
  with_reducible rfl
 rotate_left
 ·simp only [Act.put, List.setIfInBounds_toArray, List.set_cons_zero, List.set_cons_succ, i64_w, i32_w]
  rfl
 refine take_ (i := 11) (N := some 90) (v := ?_) (a' := ?_) #[true, true, true, true, true, true, true, true, true, true, true, true, false, false, false, false, false, false] rfl rfl (by kernel_rfl) (fun _ _ _ h => h) (Or.inl ⟨by rfl, ?_⟩) hHeld ?_ ?_
 rotate_left
 ·rintro w' ⟨s0, s1, s2, s3, s4, s5, s6, s7, s8, s9, s10, s11, s12, s13, s14, s15⟩
  go_simp
  with_reducible rfl
 rotate_left
 ·simp only [Act.put, List.setIfInBounds_toArray, List.set_cons_zero, List.set_cons_succ, i64_w, i32_w]
  rfl
 refine join_ (σ := Nat × Nat × Nat) 3 #[true, true, true, true, true, true, true, true, true, true, true, true, true, true, true, false, false, false] (fun s => [(18, .pointer (some ⟨s.1, 0, none⟩)), (19, .pointer (some ⟨s.2.1, 0, none⟩)), (20, .pointer (some ⟨s.2.2, 0, none⟩))]) (fun s w' => (s.1 ≠ s.2.1 ∧ s.1 ≠ s.2.2 ∧ s.2.1 ≠ s.2.2 ∧ w9.heap.size ≤ s.1 ∧ w9.heap.size ≤ s.2.1 ∧ w9.heap.size ≤ s.2.2 ∧ w'.heap[s.1]? = some (.cells #[.int .i64 0, .bool false, .int .i64 0, .bool false, .bool false] 58 (0, 0)) ∧ w'.heap[s.2.1]? = some (.cells #[.int .i64 0, .bool false, .int .i64 0, .bool false, .bool false] 58 (0, 0)) ∧ w'.heap[s.2.2]? = some (.cells #[.int .i64 0, .bool false, .int .i64 0, .bool false, .bool false] 58 (0, 0)) ∧ w' = ((w9.drew.alloc (.cells #[.int .i64 0, .bool false, .int .i64 0, .bool false, .bool false] 58)).alloc (.cells #[.int .i64 0, .bool false, .int .i64 0, .bool false, .bool false] 58)).alloc (.cells #[.int .i64 0, .bool false, .int .i64 0, .bool false, .bool false] 58))) ?_ ?_
 rotate_left
 ·intro hCont
  refine three_ (i := 12) (j := 13) (k := 14) (Ni := some 18) (Nj := some 19) (Nk := some 20) #[true, true, true, true, true, true, true, true, true, true, true, true, true, false, false, false, false, false] #[true, true, true, true, true, true, true, true, true, true, true, true, false, true, false, false, false, false] #[true, true, true, true, true, true, true, true, true, true, true, true, false, false, true, false, false, false] rfl rfl rfl rfl rfl rfl (by kernel_rfl) (by decide) (by decide) (by decide) (fun K hK => ?_) (fun K hK => ?_) (fun K hK => ?_)
  ·skip
   refine value_ (w1 := ?_) (v := ?_) (by rfl) rfl ?_ ?_
   rotate_left 2
   ·go_simp
    constructor
    ·rfl
    ·rfl
   refine hK.out _ _ ⟨((sx_alloc 1 hg16 x0)), ((sx_alloc 1 hg r0)), ((sx_alloc 1 hg r1)), ((sx_alloc 1 hg r2)), ((sx_alloc 1 hg r3)), ((sx_alloc 1 hg r4)), ((sx_alloc 1 hg r5)), ((sx_alloc 1 hg r6)), ((sx_alloc 1 hg r7)), ((sx_alloc 1 hg r8)), ((sx_alloc 1 hg r9)), ((sx_alloc 1 hg r10)), ((sx_alloc 1 hg r11)), ((sx_alloc 1 hg r12)), ((sx_alloc 1 hg r13)), ((sx_alloc 1 hg r14))⟩ (fun hHeld => ?_)
   clear hK K
   refine norm_ (a' := ?_) ?_ ?_
   rotate_left
   ·show Act.put _ (some 18) _ = _
    simp only [Act.put, List.setIfInBounds_toArray, List.set_cons_zero, List.set_cons_succ, i64_w, i32_w]
    rfl
   refine two_ (i := 13) (j := 14) (Ni := some 19) (Nj := some 20) #[true, true, true, true, true, true, true, true, true, true, true, true, true, true, false, false, false, false] #[true, true, true, true, true, true, true, true, true, true, true, true, true, false, true, false, false, false] rfl rfl rfl rfl (by kernel_rfl) (by decide) (by decide) (fun K hK => ?_) (fun K hK => ?_)
   ·skip
    refine value_ (w1 := ?_) (v := ?_) (by rfl) rfl ?_ ?_
    rotate_left 2
    ·go_simp
     constructor
     ·rfl
     ·rfl
    refine hK.out _ _ ⟨((sx_alloc 2 hg16 x0)), ((sx_alloc 2 hg r0)), ((sx_alloc 2 hg r1)), ((sx_alloc 2 hg r2)), ((sx_alloc 2 hg r3)), ((sx_alloc 2 hg r4)), ((sx_alloc 2 hg r5)), ((sx_alloc 2 hg r6)), ((sx_alloc 2 hg r7)), ((sx_alloc 2 hg r8)), ((sx_alloc 2 hg r9)), ((sx_alloc 2 hg r10)), ((sx_alloc 2 hg r11)), ((sx_alloc 2 hg r12)), ((sx_alloc 2 hg r13)), ((sx_alloc 2 hg r14))⟩ (fun hHeld => ?_)
    clear hK K
    refine norm_ (a' := ?_) ?_ ?_
    rotate_left
    ·show Act.put _ (some 19) _ = _
     simp only [Act.put, List.setIfInBounds_toArray, List.set_cons_zero, List.set_cons_succ, i64_w, i32_w]
     rfl
    refine one_ (i := 14) (N := some 20) #[true, true, true, true, true, true, true, true, true, true, true, true, true, true, true, false, false, false] rfl rfl (by kernel_rfl) (by decide) (fun K hK => ?_)
    refine value_ (w1 := ?_) (v := ?_) (by rfl) rfl ?_ ?_
    rotate_left 2
    ·go_simp
     constructor
     ·rfl
     ·rfl
    refine hK.out _ _ ⟨((sx_alloc 3 hg16 x0)), ((sx_alloc 3 hg r0)), ((sx_alloc 3 hg r1)), ((sx_alloc 3 hg r2)), ((sx_alloc 3 hg r3)), ((sx_alloc 3 hg r4)), ((sx_alloc 3 hg r5)), ((sx_alloc 3 hg r6)), ((sx_alloc 3 hg r7)), ((sx_alloc 3 hg r8)), ((sx_alloc 3 hg r9)), ((sx_alloc 3 hg r10)), ((sx_alloc 3 hg r11)), ((sx_alloc 3 hg r12)), ((sx_alloc 3 hg r13)), ((sx_alloc 3 hg r14))⟩ (fun hHeld => ?_)
    clear hK K
    refine norm_ (a' := ?_) ?_ ?_
    rotate_left
    ·show Act.put _ (some 20) _ = _
     simp only [Act.put, List.setIfInBounds_toArray, List.set_cons_zero, List.set_cons_succ, i64_w, i32_w]
     rfl
    exact norm_ (by simp only [putAll, Act.put, List.setIfInBounds_toArray, List.set_cons_zero, List.set_cons_succ]) (hCont (w9.heap.size, (w9.heap.size + 1), (w9.heap.size + 2)) _ ⟨by dsimp only; omega, by dsimp only; omega, by dsimp only; omega, by dsimp only; omega, by dsimp only; omega, by dsimp only; omega, bz3 w9.drew (.cells #[.int .i64 0, .bool false, .int .i64 0, .bool false, .bool false] 58) 0 (by omega), bz3 w9.drew (.cells #[.int .i64 0, .bool false, .int .i64 0, .bool false, .bool false] 58) 1 (by omega), bz3 w9.drew (.cells #[.int .i64 0, .bool false, .int .i64 0, .bool false, .bool false] 58) 2 (by omega), rfl⟩)
   ·skip
    refine value_ (w1 := ?_) (v := ?_) (by rfl) rfl ?_ ?_
    rotate_left 2
    ·go_simp
     constructor
     ·rfl
     ·rfl
    refine hK.out _ _ ⟨((sx_alloc 2 hg16 x0)), ((sx_alloc 2 hg r0)), ((sx_alloc 2 hg r1)), ((sx_alloc 2 hg r2)), ((sx_alloc 2 hg r3)), ((sx_alloc 2 hg r4)), ((sx_alloc 2 hg r5)), ((sx_alloc 2 hg r6)), ((sx_alloc 2 hg r7)), ((sx_alloc 2 hg r8)), ((sx_alloc 2 hg r9)), ((sx_alloc 2 hg r10)), ((sx_alloc 2 hg r11)), ((sx_alloc 2 hg r12)), ((sx_alloc 2 hg r13)), ((sx_alloc 2 hg r14))⟩ (fun hHeld => ?_)
    clear hK K
    refine norm_ (a' := ?_) ?_ ?_
    rotate_left
    ·show Act.put _ (some 20) _ = _
     simp only [Act.put, List.setIfInBounds_toArray, List.set_cons_zero, List.set_cons_succ, i64_w, i32_w]
     rfl
    refine one_ (i := 13) (N := some 19) #[true, true, true, true, true, true, true, true, true, true, true, true, true, true, true, false, false, false] rfl rfl (by kernel_rfl) (by decide) (fun K hK => ?_)
    refine value_ (w1 := ?_) (v := ?_) (by rfl) rfl ?_ ?_
    rotate_left 2
    ·go_simp
     constructor
     ·rfl
     ·rfl
    refine hK.out _ _ ⟨((sx_alloc 3 hg16 x0)), ((sx_alloc 3 hg r0)), ((sx_alloc 3 hg r1)), ((sx_alloc 3 hg r2)), ((sx_alloc 3 hg r3)), ((sx_alloc 3 hg r4)), ((sx_alloc 3 hg r5)), ((sx_alloc 3 hg r6)), ((sx_alloc 3 hg r7)), ((sx_alloc 3 hg r8)), ((sx_alloc 3 hg r9)), ((sx_alloc 3 hg r10)), ((sx_alloc 3 hg r11)), ((sx_alloc 3 hg r12)), ((sx_alloc 3 hg r13)), ((sx_alloc 3 hg r14))⟩ (fun hHeld => ?_)
    clear hK K
    refine norm_ (a' := ?_) ?_ ?_
    rotate_left
    ·show Act.put _ (some 19) _ = _
     simp only [Act.put, List.setIfInBounds_toArray, List.set_cons_zero, List.set_cons_succ, i64_w, i32_w]
     rfl
    exact norm_ (by simp only [putAll, Act.put, List.setIfInBounds_toArray, List.set_cons_zero, List.set_cons_succ]) (hCont (w9.heap.size, (w9.heap.size + 2), (w9.heap.size + 1)) _ ⟨by dsimp only; omega, by dsimp only; omega, by dsimp only; omega, by dsimp only; omega, by dsimp only; omega, by dsimp only; omega, bz3 w9.drew (.cells #[.int .i64 0, .bool false, .int .i64 0, .bool false, .bool false] 58) 0 (by omega), bz3 w9.drew (.cells #[.int .i64 0, .bool false, .int .i64 0, .bool false, .bool false] 58) 2 (by omega), bz3 w9.drew (.cells #[.int .i64 0, .bool false, .int .i64 0, .bool false, .bool false] 58) 1 (by omega), rfl⟩)
  ·skip
   refine value_ (w1 := ?_) (v := ?_) (by rfl) rfl ?_ ?_
   rotate_left 2
   ·go_simp
    constructor
    ·rfl
    ·rfl
   refine hK.out _ _ ⟨((sx_alloc 1 hg16 x0)), ((sx_alloc 1 hg r0)), ((sx_alloc 1 hg r1)), ((sx_alloc 1 hg r2)), ((sx_alloc 1 hg r3)), ((sx_alloc 1 hg r4)), ((sx_alloc 1 hg r5)), ((sx_alloc 1 hg r6)), ((sx_alloc 1 hg r7)), ((sx_alloc 1 hg r8)), ((sx_alloc 1 hg r9)), ((sx_alloc 1 hg r10)), ((sx_alloc 1 hg r11)), ((sx_alloc 1 hg r12)), ((sx_alloc 1 hg r13)), ((sx_alloc 1 hg r14))⟩ (fun hHeld => ?_)
   clear hK K
   refine norm_ (a' := ?_) ?_ ?_
   rotate_left
   ·show Act.put _ (some 19) _ = _
    simp only [Act.put, List.setIfInBounds_toArray, List.set_cons_zero, List.set_cons_succ, i64_w, i32_w]
    rfl
   refine two_ (i := 12) (j := 14) (Ni := some 18) (Nj := some 20) #[true, true, true, true, true, true, true, true, true, true, true, true, true, true, false, false, false, false] #[true, true, true, true, true, true, true, true, true, true, true, true, false, true, true, false, false, false] rfl rfl rfl rfl (by kernel_rfl) (by decide) (by decide) (fun K hK => ?_) (fun K hK => ?_)
   ·skip
    refine value_ (w1 := ?_) (v := ?_) (by rfl) rfl ?_ ?_
    rotate_left 2
    ·go_simp
     constructor
     ·rfl
     ·rfl
    refine hK.out _ _ ⟨((sx_alloc 2 hg16 x0)), ((sx_alloc 2 hg r0)), ((sx_alloc 2 hg r1)), ((sx_alloc 2 hg r2)), ((sx_alloc 2 hg r3)), ((sx_alloc 2 hg r4)), ((sx_alloc 2 hg r5)), ((sx_alloc 2 hg r6)), ((sx_alloc 2 hg r7)), ((sx_alloc 2 hg r8)), ((sx_alloc 2 hg r9)), ((sx_alloc 2 hg r10)), ((sx_alloc 2 hg r11)), ((sx_alloc 2 hg r12)), ((sx_alloc 2 hg r13)), ((sx_alloc 2 hg r14))⟩ (fun hHeld => ?_)
    clear hK K
    refine norm_ (a' := ?_) ?_ ?_
    rotate_left
    ·show Act.put _ (some 18) _ = _
     simp only [Act.put, List.setIfInBounds_toArray, List.set_cons_zero, List.set_cons_succ, i64_w, i32_w]
     rfl
    refine one_ (i := 14) (N := some 20) #[true, true, true, true, true, true, true, true, true, true, true, true, true, true, true, false, false, false] rfl rfl (by kernel_rfl) (by decide) (fun K hK => ?_)
    refine value_ (w1 := ?_) (v := ?_) (by rfl) rfl ?_ ?_
    rotate_left 2
    ·go_simp
     constructor
     ·rfl
     ·rfl
    refine hK.out _ _ ⟨((sx_alloc 3 hg16 x0)), ((sx_alloc 3 hg r0)), ((sx_alloc 3 hg r1)), ((sx_alloc 3 hg r2)), ((sx_alloc 3 hg r3)), ((sx_alloc 3 hg r4)), ((sx_alloc 3 hg r5)), ((sx_alloc 3 hg r6)), ((sx_alloc 3 hg r7)), ((sx_alloc 3 hg r8)), ((sx_alloc 3 hg r9)), ((sx_alloc 3 hg r10)), ((sx_alloc 3 hg r11)), ((sx_alloc 3 hg r12)), ((sx_alloc 3 hg r13)), ((sx_alloc 3 hg r14))⟩ (fun hHeld => ?_)
    clear hK K
    refine norm_ (a' := ?_) ?_ ?_
    rotate_left
    ·show Act.put _ (some 20) _ = _
     simp only [Act.put, List.setIfInBounds_toArray, List.set_cons_zero, List.set_cons_succ, i64_w, i32_w]
     rfl
    exact norm_ (by simp only [putAll, Act.put, List.setIfInBounds_toArray, List.set_cons_zero, List.set_cons_succ]) (hCont ((w9.heap.size + 1), w9.heap.size, (w9.heap.size + 2)) _ ⟨by dsimp only; omega, by dsimp only; omega, by dsimp only; omega, by dsimp only; omega, by dsimp only; omega, by dsimp only; omega, bz3 w9.drew (.cells #[.int .i64 0, .bool false, .int .i64 0, .bool false, .bool false] 58) 1 (by omega), bz3 w9.drew (.cells #[.int .i64 0, .bool false, .int .i64 0, .bool false, .bool false] 58) 0 (by omega), bz3 w9.drew (.cells #[.int .i64 0, .bool false, .int .i64 0, .bool false, .bool false] 58) 2 (by omega), rfl⟩)
   ·skip
    refine value_ (w1 := ?_) (v := ?_) (by rfl) rfl ?_ ?_
    rotate_left 2
    ·go_simp
     constructor
     ·rfl
     ·rfl
    refine hK.out _ _ ⟨((sx_alloc 2 hg16 x0)), ((sx_alloc 2 hg r0)), ((sx_alloc 2 hg r1)), ((sx_alloc 2 hg r2)), ((sx_alloc 2 hg r3)), ((sx_alloc 2 hg r4)), ((sx_alloc 2 hg r5)), ((sx_alloc 2 hg r6)), ((sx_alloc 2 hg r7)), ((sx_alloc 2 hg r8)), ((sx_alloc 2 hg r9)), ((sx_alloc 2 hg r10)), ((sx_alloc 2 hg r11)), ((sx_alloc 2 hg r12)), ((sx_alloc 2 hg r13)), ((sx_alloc 2 hg r14))⟩ (fun hHeld => ?_)
    clear hK K
    refine norm_ (a' := ?_) ?_ ?_
    rotate_left
    ·show Act.put _ (some 20) _ = _
     simp only [Act.put, List.setIfInBounds_toArray, List.set_cons_zero, List.set_cons_succ, i64_w, i32_w]
     rfl
    refine one_ (i := 12) (N := some 18) #[true, true, true, true, true, true, true, true, true, true, true, true, true, true, true, false, false, false] rfl rfl (by kernel_rfl) (by decide) (fun K hK => ?_)
    refine value_ (w1 := ?_) (v := ?_) (by rfl) rfl ?_ ?_
    rotate_left 2
    ·go_simp
     constructor
     ·rfl
     ·rfl
    refine hK.out _ _ ⟨((sx_alloc 3 hg16 x0)), ((sx_alloc 3 hg r0)), ((sx_alloc 3 hg r1)), ((sx_alloc 3 hg r2)), ((sx_alloc 3 hg r3)), ((sx_alloc 3 hg r4)), ((sx_alloc 3 hg r5)), ((sx_alloc 3 hg r6)), ((sx_alloc 3 hg r7)), ((sx_alloc 3 hg r8)), ((sx_alloc 3 hg r9)), ((sx_alloc 3 hg r10)), ((sx_alloc 3 hg r11)), ((sx_alloc 3 hg r12)), ((sx_alloc 3 hg r13)), ((sx_alloc 3 hg r14))⟩ (fun hHeld => ?_)
    clear hK K
    refine norm_ (a' := ?_) ?_ ?_
    rotate_left
    ·show Act.put _ (some 18) _ = _
     simp only [Act.put, List.setIfInBounds_toArray, List.set_cons_zero, List.set_cons_succ, i64_w, i32_w]
     rfl
    exact norm_ (by simp only [putAll, Act.put, List.setIfInBounds_toArray, List.set_cons_zero, List.set_cons_succ]) (hCont ((w9.heap.size + 2), w9.heap.size, (w9.heap.size + 1)) _ ⟨by dsimp only; omega, by dsimp only; omega, by dsimp only; omega, by dsimp only; omega, by dsimp only; omega, by dsimp only; omega, bz3 w9.drew (.cells #[.int .i64 0, .bool false, .int .i64 0, .bool false, .bool false] 58) 2 (by omega), bz3 w9.drew (.cells #[.int .i64 0, .bool false, .int .i64 0, .bool false, .bool false] 58) 0 (by omega), bz3 w9.drew (.cells #[.int .i64 0, .bool false, .int .i64 0, .bool false, .bool false] 58) 1 (by omega), rfl⟩)
  ·skip
   refine value_ (w1 := ?_) (v := ?_) (by rfl) rfl ?_ ?_
   rotate_left 2
   ·go_simp
    constructor
    ·rfl
    ·rfl
   refine hK.out _ _ ⟨((sx_alloc 1 hg16 x0)), ((sx_alloc 1 hg r0)), ((sx_alloc 1 hg r1)), ((sx_alloc 1 hg r2)), ((sx_alloc 1 hg r3)), ((sx_alloc 1 hg r4)), ((sx_alloc 1 hg r5)), ((sx_alloc 1 hg r6)), ((sx_alloc 1 hg r7)), ((sx_alloc 1 hg r8)), ((sx_alloc 1 hg r9)), ((sx_alloc 1 hg r10)), ((sx_alloc 1 hg r11)), ((sx_alloc 1 hg r12)), ((sx_alloc 1 hg r13)), ((sx_alloc 1 hg r14))⟩ (fun hHeld => ?_)
   clear hK K
   refine norm_ (a' := ?_) ?_ ?_
   rotate_left
   ·show Act.put _ (some 20) _ = _
    simp only [Act.put, List.setIfInBounds_toArray, List.set_cons_zero, List.set_cons_succ, i64_w, i32_w]
    rfl
   refine two_ (i := 12) (j := 13) (Ni := some 18) (Nj := some 19) #[true, true, true, true, true, true, true, true, true, true, true, true, true, false, true, false, false, false] #[true, true, true, true, true, true, true, true, true, true, true, true, false, true, true, false, false, false] rfl rfl rfl rfl (by kernel_rfl) (by decide) (by decide) (fun K hK => ?_) (fun K hK => ?_)
   ·skip
    refine value_ (w1 := ?_) (v := ?_) (by rfl) rfl ?_ ?_
    rotate_left 2
    ·go_simp
     constructor
     ·rfl
     ·rfl
    refine hK.out _ _ ⟨((sx_alloc 2 hg16 x0)), ((sx_alloc 2 hg r0)), ((sx_alloc 2 hg r1)), ((sx_alloc 2 hg r2)), ((sx_alloc 2 hg r3)), ((sx_alloc 2 hg r4)), ((sx_alloc 2 hg r5)), ((sx_alloc 2 hg r6)), ((sx_alloc 2 hg r7)), ((sx_alloc 2 hg r8)), ((sx_alloc 2 hg r9)), ((sx_alloc 2 hg r10)), ((sx_alloc 2 hg r11)), ((sx_alloc 2 hg r12)), ((sx_alloc 2 hg r13)), ((sx_alloc 2 hg r14))⟩ (fun hHeld => ?_)
    clear hK K
    refine norm_ (a' := ?_) ?_ ?_
    rotate_left
    ·show Act.put _ (some 18) _ = _
     simp only [Act.put, List.setIfInBounds_toArray, List.set_cons_zero, List.set_cons_succ, i64_w, i32_w]
     rfl
    refine one_ (i := 13) (N := some 19) #[true, true, true, true, true, true, true, true, true, true, true, true, true, true, true, false, false, false] rfl rfl (by kernel_rfl) (by decide) (fun K hK => ?_)
    refine value_ (w1 := ?_) (v := ?_) (by rfl) rfl ?_ ?_
    rotate_left 2
    ·go_simp
     constructor
     ·rfl
     ·rfl
    refine hK.out _ _ ⟨((sx_alloc 3 hg16 x0)), ((sx_alloc 3 hg r0)), ((sx_alloc 3 hg r1)), ((sx_alloc 3 hg r2)), ((sx_alloc 3 hg r3)), ((sx_alloc 3 hg r4)), ((sx_alloc 3 hg r5)), ((sx_alloc 3 hg r6)), ((sx_alloc 3 hg r7)), ((sx_alloc 3 hg r8)), ((sx_alloc 3 hg r9)), ((sx_alloc 3 hg r10)), ((sx_alloc 3 hg r11)), ((sx_alloc 3 hg r12)), ((sx_alloc 3 hg r13)), ((sx_alloc 3 hg r14))⟩ (fun hHeld => ?_)
    clear hK K
    refine norm_ (a' := ?_) ?_ ?_
    rotate_left
    ·show Act.put _ (some 19) _ = _
     simp only [Act.put, List.setIfInBounds_toArray, List.set_cons_zero, List.set_cons_succ, i64_w, i32_w]
     rfl
    exact norm_ (by simp only [putAll, Act.put, List.setIfInBounds_toArray, List.set_cons_zero, List.set_cons_succ]) (hCont ((w9.heap.size + 1), (w9.heap.size + 2), w9.heap.size) _ ⟨by dsimp only; omega, by dsimp only; omega, by dsimp only; omega, by dsimp only; omega, by dsimp only; omega, by dsimp only; omega, bz3 w9.drew (.cells #[.int .i64 0, .bool false, .int .i64 0, .bool false, .bool false] 58) 1 (by omega), bz3 w9.drew (.cells #[.int .i64 0, .bool false, .int .i64 0, .bool false, .bool false] 58) 2 (by omega), bz3 w9.drew (.cells #[.int .i64 0, .bool false, .int .i64 0, .bool false, .bool false] 58) 0 (by omega), rfl⟩)
   ·skip
    refine value_ (w1 := ?_) (v := ?_) (by rfl) rfl ?_ ?_
    rotate_left 2
    ·go_simp
     constructor
     ·rfl
     ·rfl
    refine hK.out _ _ ⟨((sx_alloc 2 hg16 x0)), ((sx_alloc 2 hg r0)), ((sx_alloc 2 hg r1)), ((sx_alloc 2 hg r2)), ((sx_alloc 2 hg r3)), ((sx_alloc 2 hg r4)), ((sx_alloc 2 hg r5)), ((sx_alloc 2 hg r6)), ((sx_alloc 2 hg r7)), ((sx_alloc 2 hg r8)), ((sx_alloc 2 hg r9)), ((sx_alloc 2 hg r10)), ((sx_alloc 2 hg r11)), ((sx_alloc 2 hg r12)), ((sx_alloc 2 hg r13)), ((sx_alloc 2 hg r14))⟩ (fun hHeld => ?_)
    clear hK K
    refine norm_ (a' := ?_) ?_ ?_
    rotate_left
    ·show Act.put _ (some 19) _ = _
     simp only [Act.put, List.setIfInBounds_toArray, List.set_cons_zero, List.set_cons_succ, i64_w, i32_w]
     rfl
    refine one_ (i := 12) (N := some 18) #[true, true, true, true, true, true, true, true, true, true, true, true, true, true, true, false, false, false] rfl rfl (by kernel_rfl) (by decide) (fun K hK => ?_)
    refine value_ (w1 := ?_) (v := ?_) (by rfl) rfl ?_ ?_
    rotate_left 2
    ·go_simp
     constructor
     ·rfl
     ·rfl
    refine hK.out _ _ ⟨((sx_alloc 3 hg16 x0)), ((sx_alloc 3 hg r0)), ((sx_alloc 3 hg r1)), ((sx_alloc 3 hg r2)), ((sx_alloc 3 hg r3)), ((sx_alloc 3 hg r4)), ((sx_alloc 3 hg r5)), ((sx_alloc 3 hg r6)), ((sx_alloc 3 hg r7)), ((sx_alloc 3 hg r8)), ((sx_alloc 3 hg r9)), ((sx_alloc 3 hg r10)), ((sx_alloc 3 hg r11)), ((sx_alloc 3 hg r12)), ((sx_alloc 3 hg r13)), ((sx_alloc 3 hg r14))⟩ (fun hHeld => ?_)
    clear hK K
    refine norm_ (a' := ?_) ?_ ?_
    rotate_left
    ·show Act.put _ (some 18) _ = _
     simp only [Act.put, List.setIfInBounds_toArray, List.set_cons_zero, List.set_cons_succ, i64_w, i32_w]
     rfl
    exact norm_ (by simp only [putAll, Act.put, List.setIfInBounds_toArray, List.set_cons_zero, List.set_cons_succ]) (hCont ((w9.heap.size + 2), (w9.heap.size + 1), w9.heap.size) _ ⟨by dsimp only; omega, by dsimp only; omega, by dsimp only; omega, by dsimp only; omega, by dsimp only; omega, by dsimp only; omega, bz3 w9.drew (.cells #[.int .i64 0, .bool false, .int .i64 0, .bool false, .bool false] 58) 2 (by omega), bz3 w9.drew (.cells #[.int .i64 0, .bool false, .int .i64 0, .bool false, .bool false] 58) 1 (by omega), bz3 w9.drew (.cells #[.int .i64 0, .bool false, .int .i64 0, .bool false, .bool false] 58) 0 (by omega), rfl⟩)
 rintro ⟨p18, p19, p20⟩ wz ⟨d1, d2, d3, l1, l2, l3, z18, z19, z20, hwz⟩
 dsimp only at d1 d2 d3 l1 l2 l3 z18 z19 z20 ⊢
 have hHeld : wz.cell? ⟨g16, 0, none⟩ = some (.slice (some ⟨g, off, none⟩) 3 cap) ∧ wz.cell? ⟨g, off, none⟩ = some (.int .i64 seq) ∧ wz.cell? ⟨g, off + 1, none⟩ = some (.bool true) ∧ wz.cell? ⟨g, off + 2, none⟩ = some (.int .i64 A) ∧ wz.cell? ⟨g, off + 3, none⟩ = some (.bool false) ∧ wz.cell? ⟨g, off + 4, none⟩ = some (.bool false) ∧ wz.cell? ⟨g, off + 5, none⟩ = some (.int .i64 (((seq : Int) + 1) % 65536)) ∧ wz.cell? ⟨g, off + 5 + 1, none⟩ = some (.bool true) ∧ wz.cell? ⟨g, off + 5 + 2, none⟩ = some (.int .i64 0) ∧ wz.cell? ⟨g, off + 5 + 3, none⟩ = some (.bool true) ∧ wz.cell? ⟨g, off + 5 + 4, none⟩ = some (.bool true) ∧ wz.cell? ⟨g, off + 10, none⟩ = some (.int .i64 (((seq : Int) + 2) % 65536)) ∧ wz.cell? ⟨g, off + 10 + 1, none⟩ = some (.bool false) ∧ wz.cell? ⟨g, off + 10 + 2, none⟩ = some (.int .i64 0) ∧ wz.cell? ⟨g, off + 10 + 3, none⟩ = some (.bool false) ∧ wz.cell? ⟨g, off + 10 + 4, none⟩ = some (.bool false) := hwz ▸ ⟨(sx_alloc 3 hg16 x0), (sx_alloc 3 hg r0), (sx_alloc 3 hg r1), (sx_alloc 3 hg r2), (sx_alloc 3 hg r3), (sx_alloc 3 hg r4), (sx_alloc 3 hg r5), (sx_alloc 3 hg r6), (sx_alloc 3 hg r7), (sx_alloc 3 hg r8), (sx_alloc 3 hg r9), (sx_alloc 3 hg r10), (sx_alloc 3 hg r11), (sx_alloc 3 hg r12), (sx_alloc 3 hg r13), (sx_alloc 3 hg r14)⟩
 replace HBz0 : Below w9.drew.heap.size w9.drew wz := by rw [hwz]; exact HBz0
 clear hwz
 refine norm_ (a' := ?_) ?_ ?_
 rotate_left
 ·simp only [putAll, Act.put, List.setIfInBounds_toArray, List.set_cons_zero, List.set_cons_succ]
  rfl
 refine one_ (i := 15) (N := none) #[true, true, true, true, true, true, true, true, true, true, true, true, true, true, true, true, false, false] rfl rfl (by kernel_rfl) (by decide) (fun K hK => ?_)
 have u0 := blk_cell z18 0
 have u1 := blk_cell z18 1
 have u2 := blk_cell z18 2
 have u3 := blk_cell z18 3
 have u4 := blk_cell z18 4
 simp only [List.getElem?_toArray, List.getElem?_cons_zero, List.getElem?_cons_succ] at u0 u1 u2 u3 u4
 have uf0 := blk_frozen z18 0
 have uf1 := blk_frozen z18 1
 have uf2 := blk_frozen z18 2
 have uf3 := blk_frozen z18 3
 have uf4 := blk_frozen z18 4
 refine skip_ (w1 := ?_) (by rfl) rfl ?_ ?_
 rotate_left
 ·go_simp
  rfl
 obtain ⟨wz1, hwz1⟩ : ∃ w, w = (((((wz.setCell ⟨p18, 0, none⟩ (.int .i64 seq)).setCell ⟨p18, 1, none⟩ (.bool true)).setCell ⟨p18, 2, none⟩ (.int .i64 A)).setCell ⟨p18, 3, none⟩ (.bool false)).setCell ⟨p18, 4, none⟩ (.bool false)) := ⟨_, rfl⟩
 rw [← hwz1]
 have HBz1 := st5_below (show w9.drew.heap.size ≤ p18 from l1) HBz0 hwz1
 have y18 := st5_at z18 hwz1
 have y19_ := st5_far (show p19 ≠ p18 by omega) z19 hwz1
 have y20_ := st5_far (show p20 ≠ p18 by omega) z20 hwz1
 clear z19
 have z19 := y19_
 clear y19_
 clear z20
 have z20 := y20_
 clear y20_
 clear hwz1 z18
 have u0 := blk_cell z19 0
 have u1 := blk_cell z19 1
 have u2 := blk_cell z19 2
 have u3 := blk_cell z19 3
 have u4 := blk_cell z19 4
 simp only [List.getElem?_toArray, List.getElem?_cons_zero, List.getElem?_cons_succ] at u0 u1 u2 u3 u4
 have uf0 := blk_frozen z19 0
 have uf1 := blk_frozen z19 1
 have uf2 := blk_frozen z19 2
 have uf3 := blk_frozen z19 3
 have uf4 := blk_frozen z19 4
 refine hK.out _ _ ⟨(sx_below HBz1 hg16 x0), (sx_below HBz1 hg r0), (sx_below HBz1 hg r1), (sx_below HBz1 hg r2), (sx_below HBz1 hg r3), (sx_below HBz1 hg r4), (sx_below HBz1 hg r5), (sx_below HBz1 hg r6), (sx_below HBz1 hg r7), (sx_below HBz1 hg r8), (sx_below HBz1 hg r9), (sx_below HBz1 hg r10), (sx_below HBz1 hg r11), (sx_below HBz1 hg r12), (sx_below HBz1 hg r13), (sx_below HBz1 hg r14)⟩ (fun hHeld => ?_)
 clear hK K
 refine one_ (i := 16) (N := none) #[true, true, true, true, true, true, true, true, true, true, true, true, true, true, true, true, true, false] rfl rfl (by kernel_rfl) (by decide) (fun K hK => ?_)
 refine skip_ (w1 := ?_) (by rfl) rfl ?_ ?_
 rotate_left
 ·go_simp
  rfl
 obtain ⟨wz2, hwz2⟩ : ∃ w, w = (((((wz1.setCell ⟨p19, 0, none⟩ (.int .i64 (((seq : Int) + 1) % 65536))).setCell ⟨p19, 1, none⟩ (.bool true)).setCell ⟨p19, 2, none⟩ (.int .i64 0)).setCell ⟨p19, 3, none⟩ (.bool true)).setCell ⟨p19, 4, none⟩ (.bool true)) := ⟨_, rfl⟩
 rw [← hwz2]
 have HBz2 := st5_below (show w9.drew.heap.size ≤ p19 from l2) HBz1 hwz2
 have y19 := st5_at z19 hwz2
 have y18_ := st5_far (show p18 ≠ p19 by omega) y18 hwz2
 have y20_ := st5_far (show p20 ≠ p19 by omega) z20 hwz2
 clear y18
 have y18 := y18_
 clear y18_
 clear z20
 have z20 := y20_
 clear y20_
 clear hwz2 z19
 have u0 := blk_cell z20 0
 have u1 := blk_cell z20 1
 have u2 := blk_cell z20 2
 have u3 := blk_cell z20 3
 have u4 := blk_cell z20 4
 simp only [List.getElem?_toArray, List.getElem?_cons_zero, List.getElem?_cons_succ] at u0 u1 u2 u3 u4
 have uf0 := blk_frozen z20 0
 have uf1 := blk_frozen z20 1
 have uf2 := blk_frozen z20 2
 have uf3 := blk_frozen z20 3
 have uf4 := blk_frozen z20 4
 refine hK.out _ _ ⟨(sx_below HBz2 hg16 x0), (sx_below HBz2 hg r0), (sx_below HBz2 hg r1), (sx_below HBz2 hg r2), (sx_below HBz2 hg r3), (sx_below HBz2 hg r4), (sx_below HBz2 hg r5), (sx_below HBz2 hg r6), (sx_below HBz2 hg r7), (sx_below HBz2 hg r8), (sx_below HBz2 hg r9), (sx_below HBz2 hg r10), (sx_below HBz2 hg r11), (sx_below HBz2 hg r12), (sx_below HBz2 hg r13), (sx_below HBz2 hg r14)⟩ (fun hHeld => ?_)
 clear hK K
 refine last_ (i := 17) (N := none) #[true, true, true, true, true, true, true, true, true, true, true, true, true, true, true, true, true, true] rfl rfl (by kernel_rfl) (by decide) (fun K hK => ?_)
 refine skip_ (w1 := ?_) (by rfl) rfl ?_ ?_
 rotate_left
 ·go_simp
  rfl
 obtain ⟨wz3, hwz3⟩ : ∃ w, w = (((((wz2.setCell ⟨p20, 0, none⟩ (.int .i64 (((seq : Int) + 2) % 65536))).setCell ⟨p20, 1, none⟩ (.bool false)).setCell ⟨p20, 2, none⟩ (.int .i64 0)).setCell ⟨p20, 3, none⟩ (.bool false)).setCell ⟨p20, 4, none⟩ (.bool false)) := ⟨_, rfl⟩
 rw [← hwz3]
 have HBz3 := st5_below (show w9.drew.heap.size ≤ p20 from l3) HBz2 hwz3
 have y20 := st5_at z20 hwz3
 have y18_ := st5_far (show p18 ≠ p20 by omega) y18 hwz3
 have y19_ := st5_far (show p19 ≠ p20 by omega) y19 hwz3
 clear y18
 have y18 := y18_
 clear y18_
 clear y19
 have y19 := y19_
 clear y19_
 clear hwz3 z20
 refine hK.out _ _ ?_
 clear hK K
 refine done_ (by kernel_rfl) ?_
 try clear hHeld
 clear x0 r0 r1 r2 r3 r4 r5 r6 r7 r8 r9 r10 r11 r12 r13 r14
 replace HB := Aside0.mk (HB.out.trans (HBz3.mono HB.out.size))
 have Y18 := Aside0.mk y18
 have Y19 := Aside0.mk y19
 have Y20 := Aside0.mk y20
 clear y18 y19 y20 HBz0 HBz1 HBz2 HBz3 K16 HX9
 go_upto_region 15 with fail
 clear u0 u1 u2 u3 u4 uf0 uf1 uf2 uf3 uf4
 obtain ⟨V, hV⟩ : ∃ V, V = (t : Int) - (k : Int) * 1000000 / 1024 := ⟨_, rfl⟩
 have hVA := HX.out
 have hV1 : -100000000 ≤ V ∧ V ≤ 1100585369600 := by omega
 rw [← hV] at hVA ⊢
 clear hV
 have hA2 : -100000100 ≤ A ∧ A ≤ 1100585369600 := by omega
 have b1 : decide (A ≤ V + 1) = true := decide_eq_true (by omega)
 have b2 : decide (V - A ≤ 17) = true := decide_eq_true (by omega)
 have bq : (((seq : Int) + 2) % 65536 == wrap64 (IntKind.u16.wrap ((seq : Int) + 2))) = true := beq_iff_eq.2 (by rw [IntKind.wrap_u16]; unfold wrap64; omega)
 have e0 := blk_cell Y18.out 0
 have e1 := blk_cell Y18.out 1
 have e2 := blk_cell Y18.out 2
 have e3 := blk_cell Y18.out 3
 have e4 := blk_cell Y18.out 4
 simp only [List.getElem?_toArray, List.getElem?_cons_zero, List.getElem?_cons_succ] at e0 e1 e2 e3 e4
 have f0 := blk_cell Y19.out 0
 have f1 := blk_cell Y19.out 1
 have f2 := blk_cell Y19.out 2
 have f3 := blk_cell Y19.out 3
 have f4 := blk_cell Y19.out 4
 simp only [List.getElem?_toArray, List.getElem?_cons_zero, List.getElem?_cons_succ] at f0 f1 f2 f3 f4
 have m0 := blk_cell Y20.out 0
 have m1 := blk_cell Y20.out 1
 have m2 := blk_cell Y20.out 2
 have m3 := blk_cell Y20.out 3
 have m4 := blk_cell Y20.out 4
 simp only [List.getElem?_toArray, List.getElem?_cons_zero, List.getElem?_cons_succ] at m0 m1 m2 m3 m4
 go_wp2_with fail
 refine (wakesF_any wz3).mono ?_
 rintro e w10 ⟨rfl, hb⟩
 replace HB := Aside0.mk (HB.out.trans (hb.mono HB.out.size))
 clear hb
 go_wp2_with fail
 go_ret
 exact ⟨rfl, HB.out⟩
end Go.Proofs.Ytgakmnholegbgaa.B
end
section
namespace Go.Proofs.Ytgakmnholegbgaa.B
open Go.RowKit Go.Proofs.YtgakmnholegbgaaW.PrintWords Go.Proofs.YtgakmnholegbgaaW.PrintLast Go.Proofs.YtgakmnholegbgaaW.PrintMore
set_option linter.unusedVariables false
set_option linter.unusedSimpArgs false
set_option maxHeartbeats 16000000 in
set_option maxRecDepth 100000 in
theorem feedTimes_pos (a : Int) (ago seq : Nat) (near : Int) (w : World) (ha : I64 a) (h1 : ago ≤ 65535) (h2 : seq ≤ 65535) (hn : -2147483648 ≤ near ∧ near ≤ 2147483647) (hs0 : ¬ Int.tmod a 1099511627776 < 0) : Calls Try.prog 5 #[.int .i64 a, .agg #[.int .u16 ago, .int .u16 seq], .int .i32 near] w fun e w' => e = .returned (.bool true) ∧ Below w.heap.size w w' := by
 have HS0 := Aside0.mk hs0
 clear hs0
 have H1 := Aside0.mk (blk_new w (.cells #[.int .u16 ago, .int .u16 seq] 43))
 have HB := Aside0.mk ((Below.refl w.heap.size w).alloc (Nat.le_refl _) (.cells #[.int .u16 ago, .int .u16 seq] 43))
 go_enter Try.func5, Try.ntmps5
 go_upto_region 1 with fail
 obtain ⟨g1, hg1⟩ : ∃ g, g = w.heap.size := ⟨_, rfl⟩
 rw [← hg1] at H1 ⊢
 clear hg1
 generalize w.alloc (.cells #[.int .u16 ago, .int .u16 seq] 43) = w1 at *
 have c0 := blk_cell H1.out 0
 have c1 := blk_cell H1.out 1
 simp only [List.getElem?_toArray, List.getElem?_cons_zero, List.getElem?_cons_succ] at c0 c1
 go_wp2_with fail
 go_region
 clear c0 c1
 replace HB := Aside0.mk HB.out.drew
 generalize w1.drew = w2 at *
 go_upto_region 3 with fail
 obtain ⟨x, hx⟩ : ∃ x, x = Int.tmod a 1099511627776 := ⟨_, rfl⟩
 have hxb : -1099511627776 < x ∧ x < 1099511627776 := by
  rcases Int.le_total 0 a with h | h
  ·rw [Int.tmod_eq_emod_of_nonneg h] at hx; omega
  ·have e := Int.neg_tmod (a := -a) (b := 1099511627776)
   rw [Int.neg_neg, Int.tmod_eq_emod_of_nonneg (a := -a) (by omega)] at e
   omega
 have hs : ¬ x < 0 := by have h_ := HS0.out; rw [hx]; omega
 rw [← hx]
 clear HS0
 clear hx ha
 obtain ⟨t, ht⟩ : ∃ t : Nat, (t : Int) = (if x < 0 then -x else x) + 1073741824 := ⟨((if x < 0 then -x else x) + 1073741824).toNat, by split <;> omega⟩
 have ht0 : 1073741824 ≤ t ∧ t ≤ 1100585369600 := by split at ht <;> omega
 rw [if_neg hs] at ht
 have q1 : decide (x < 0) = false := decide_eq_false hs
 go_upto_region 6 with fail
 rw [← ht]
 clear ht hs q1 hxb
 obtain ⟨k, hk⟩ : ∃ k, k = ago % 8190 := ⟨_, rfl⟩
 have hk1 : k ≤ 8189 := by omega
 have ek : (ago : Int) % 8190 = (k : Int) := by omega
 go_upto_region 7 with fail
 rw [ek]
 clear ek hk
 have KM := Aside0.mk ((Below.heap_alloc (w2.alloc (.cells #[.bool true, .int .i64 0, .int .i64 k, .bool true, .int .i64 3, .int .i64 8191, .bool false, .int .i64 0, .int .i64 0] 45)) (.cells #[.int .u32 0, .int .i64 seq, .slice (some ⟨w2.heap.size, 0, none⟩) 3 3] 49) w2.heap.size (by simp)).trans (blk_new w2 (.cells #[.bool true, .int .i64 0, .int .i64 k, .bool true, .int .i64 3, .int .i64 8191, .bool false, .int .i64 0, .int .i64 0] 45)))
 have KB0 := blk_new (w2.alloc (.cells #[.bool true, .int .i64 0, .int .i64 k, .bool true, .int .i64 3, .int .i64 8191, .bool false, .int .i64 0, .int .i64 0] 45)) (.cells #[.int .u32 0, .int .i64 seq, .slice (some ⟨w2.heap.size, 0, none⟩) 3 3] 49)
 rw [show (w2.alloc (.cells #[.bool true, .int .i64 0, .int .i64 k, .bool true, .int .i64 3, .int .i64 8191, .bool false, .int .i64 0, .int .i64 0] 45)).heap.size = w2.heap.size + 1 by simp] at KB0
 have KB := Aside0.mk KB0
 clear KB0
 replace HB := Aside0.mk ((HB.out.alloc HB.out.size (.cells #[.bool true, .int .i64 0, .int .i64 k, .bool true, .int .i64 3, .int .i64 8191, .bool false, .int .i64 0, .int .i64 0] 45)))
 replace HB := Aside0.mk ((HB.out.alloc HB.out.size (.cells #[.int .u32 0, .int .i64 seq, .slice (some ⟨w2.heap.size, 0, none⟩) 3 3] 49)))
 go_wp2_with fail
 obtain ⟨gb, hgb⟩ : ∃ g, g = w2.heap.size + 1 := ⟨_, rfl⟩
 rw [← hgb] at KB ⊢
 obtain ⟨gm, hgm⟩ : ∃ g, g = w2.heap.size := ⟨_, rfl⟩
 rw [← hgm] at KM KB HB ⊢
 clear hgb hgm
 generalize (w2.alloc (.cells #[.bool true, .int .i64 0, .int .i64 k, .bool true, .int .i64 3, .int .i64 8191, .bool false, .int .i64 0, .int .i64 0] 45)).alloc (.cells #[.int .u32 0, .int .i64 seq, .slice (some ⟨gm, 0, none⟩) 3 3] 49) = w3 at *
 have CS := stamp12_any t w3 ht0.2
 obtain ⟨S, hS⟩ : ∃ S, S = (t * 65536 / 1000000) % 4294967296 := ⟨_, rfl⟩
 have hS1 : S ≤ 4294967295 := by omega
 rw [← hS] at CS
 obtain ⟨d, hd⟩ : ∃ d, d = Int.tdiv near 2 := ⟨_, rfl⟩
 have hd1 : -1073741824 ≤ d ∧ d ≤ 1073741824 := by
  rw [hd]
  rcases Int.le_total 0 near with h | h
  ·rw [Int.tdiv_eq_ediv_of_nonneg h]; omega
  ·have e := Int.neg_tdiv (a := -near) (b := 2)
   rw [Int.neg_neg, Int.tdiv_eq_ediv_of_nonneg (a := -near) (by omega)] at e
   omega
 obtain ⟨T, hT⟩ := tB_join seq k S
 have hF := times_feed seq k S (t + d) T h2 hk1 hS1 hT
 obtain ⟨X, hX, hX1, hX2⟩ := times_from t d ht0.1 ht0.2 hd1
 rw [← hS] at hX
 rw [hX] at hF
 have hm : mdo k 1000000 1024 1 = ((k * 1000000 / 1024 : Nat) : Int) := mdo_dn k 1000000 1024 (by omega) (by omega)
 obtain ⟨A, hA⟩ : ∃ A, A = wrap64 (X - mdo k 1000000 1024 1) := ⟨_, rfl⟩
 rw [← hA, show (seq : Int) % 65536 = (seq : Int) by omega] at hF
 have hA1 : A ≤ (t : Int) - (k : Int) * 1000000 / 1024 ∧ (t : Int) - (k : Int) * 1000000 / 1024 - 15 ≤ A := by
  obtain ⟨Q, hQ⟩ : ∃ Q, Q = k * 1000000 / 1024 := ⟨_, rfl⟩
  have hQ1 : Q ≤ 8000000 := by omega
  have hQ2 : (k : Int) * 1000000 / 1024 = (Q : Int) := by omega
  rw [hA, hm, hQ2, ← hQ]
  have e : wrap64 (X - (Q : Int)) = X - (Q : Int) := by unfold wrap64; omega
  rw [e]
  omega
 have hTs : T.size ≤ 65536 := joinT_size hT
 have hBz := tB_size seq k S
 have CE := Aside0.mk (fun w0 km kb => times_encode w0 gb gm seq k S h2 hk1 hS1 km kb)
 rw [tB_is] at CE
 generalize tB seq k S = B at *
 have HT := Aside0.mk hT
 have HX := Aside0.mk hA1
 have CF := Aside0.mk (fun w0 => read_any_F T ((t : Int) + d) w0 (by omega) (by unfold I64; omega))
 unfold FeedPost at CF
 rw [hF] at CF
 dsimp only at CF
 clear hS hX hX1 hX2 hm hA hA1 hF hT
 refine CS.mono ?_
 rintro e w4 ⟨rfl, hw⟩
 obtain rfl := hw.symm
 clear CS
 have K11 := Aside0.mk (blk_new w3 (.cells #[.int .u32 0, .slice (some ⟨gb, 0, none⟩) 1 1, .int .u32 S] 53))
 replace KM := Aside0.mk ((Below.heap_alloc w3 (.cells #[.int .u32 0, .slice (some ⟨gb, 0, none⟩) 1 1, .int .u32 S] 53) gm (blk_lt KM.out)).trans KM.out)
 replace KB := Aside0.mk ((Below.heap_alloc w3 (.cells #[.int .u32 0, .slice (some ⟨gb, 0, none⟩) 1 1, .int .u32 S] 53) gb (blk_lt KB.out)).trans KB.out)
 replace HB := Aside0.mk (HB.out.alloc HB.out.size (.cells #[.int .u32 0, .slice (some ⟨gb, 0, none⟩) 1 1, .int .u32 S] 53))
 go_upto_region 8 with fail
 obtain ⟨g11, hg11⟩ : ∃ g, g = w3.heap.size := ⟨_, rfl⟩
 rw [← hg11] at K11 ⊢
 clear hg11
 generalize w3.alloc (.cells #[.int .u32 0, .slice (some ⟨gb, 0, none⟩) 1 1, .int .u32 S] 53) = w5 at *
 have c0 := blk_cell K11.out 0
 have c1 := blk_cell K11.out 1
 have c2 := blk_cell K11.out 2
 simp only [List.getElem?_toArray, List.getElem?_cons_zero, List.getElem?_cons_succ] at c0 c1 c2
 go_wp2_with fail
 refine (CE.out w5 KM.out KB.out).mono ?_
 rintro e w6 ⟨rfl, hb⟩
 replace HB := Aside0.mk (HB.out.trans (hb.mono HB.out.size))
 clear hb c0 c1 c2 K11 KM KB CE
 go_upto_region 9 with fail
 have HR2 := Aside0.mk (row_new w6 [(11, 205, B)] 1 rfl (by decide) #[.int .i64 11, .int .i64 205, .string B] rfl)
 have CJ := Aside0.mk (rjoin_any (some ⟨w6.heap.size, 0, none⟩) 1 [(11, 205, B)] (w6.alloc (.cells #[.int .i64 11, .int .i64 205, .string B] 56)) (by simp) (PartsAt.of_row HR2.out rfl).2.1 (by
  intro x hx
  have : x = (11, 205, B) := by simpa using hx
  rw [this]
  show B.size ≤ _
  omega))
 rw [HT.out] at CJ
 go_wp2_with fail
 refine CJ.out.mono ?_
 rintro e w7 ⟨rfl, hb⟩
 replace HB := Aside0.mk ((HB.out.alloc HB.out.size (.cells #[.int .i64 11, .int .i64 205, .string B] 56)).trans (hb.mono (HB.out.alloc HB.out.size _).size))
 clear hb CJ HR2
 go_upto_region 10 with fail
 have HD := Aside0.mk hd
 clear hd
 go_wp2_with fail
 rw [← HD.out, show wrap64 ((t : Int) + d) = (t : Int) + d by unfold wrap64; omega]
 refine (CF.out w7).mono ?_
 rintro e w8 ⟨vR, vA, rfl, hR, hA, hb⟩
 obtain ⟨A1, c1_, rfl, -, -⟩ := hA.form
 obtain ⟨L, hL⟩ : ∃ L, L = repV [((seq : Int), true, A, false, false), (((seq : Int) + 1) % 65536, true, 0, true, true), (((seq : Int) + 2) % 65536, false, 0, false, false)] := ⟨_, rfl⟩
 rw [← hL] at hR
 have hRl := fun k hk => (hR.lt (k := k) hk).1
 obtain ⟨_, ⟨rfl, h0⟩ | ⟨g, off, cap, rfl, _, _, _, _, hx, _⟩⟩ := hR
 ·cases h0
 have hg : g < w8.heap.size := hRl g rfl
 clear hRl
 have HX8 := Aside0.mk hx
 have HL := Aside0.mk hL
 replace HB := Aside0.mk (HB.out.trans (hb.mono HB.out.size))
 have K16 := Aside0.mk (blk_new w8 (.cells #[.slice (some ⟨g, off, none⟩) 3 cap, .slice A1 0 c1_] 26))
 have HX9 : Aside0 (∀ (j : Nat) (u : Value), L[j]? = some u → (w8.alloc (.cells #[.slice (some ⟨g, off, none⟩) 3 cap, .slice A1 0 c1_] 26)).cell? ⟨g, off + j, none⟩ = some u) := ⟨fun j u hj => (World.cell?_alloc_past _ _ _ hg).trans (HX8.out j u hj)⟩
 replace hg : g < (w8.alloc (.cells #[.slice (some ⟨g, off, none⟩) 3 cap, .slice A1 0 c1_] 26)).heap.size := by simp; omega
 replace HB := Aside0.mk (HB.out.alloc HB.out.size (.cells #[.slice (some ⟨g, off, none⟩) 3 cap, .slice A1 0 c1_] 26))
 clear hx hL hA hb HX8 CF
 go_upto_region 11 with fail
 obtain ⟨g16, hg16⟩ : ∃ g, g = w8.heap.size := ⟨_, rfl⟩
 rw [← hg16] at K16 ⊢
 clear hg16
 generalize w8.alloc (.cells #[.slice (some ⟨g, off, none⟩) 3 cap, .slice A1 0 c1_] 26) = w9 at *
 have x0 := blk_cell K16.out 0
 simp only [List.getElem?_toArray, List.getElem?_cons_zero, List.getElem?_cons_succ] at x0
 go_upto_region 13 with fail
 rw [HL.out] at HX9
 replace HX9 : Aside0 (∀ (j : Nat) (u : Value), (repV [((seq : Int), true, A, false, false), (((seq : Int) + 1) % 65536, true, 0, true, true), (((seq : Int) + 2) % 65536, false, 0, false, false)])[j]? = some u → w9.drew.cell? ⟨g, off + j, none⟩ = some u) := ⟨fun j u hj => HX9.out j u hj⟩
 replace HB := Aside0.mk HB.out.drew
 replace K16 : Aside0 (w9.drew.heap[g16]? = some (.cells #[.slice (some ⟨g, off, none⟩) 3 cap, .slice A1 0 c1_] 26 (0, 0))) := ⟨K16.out⟩
 replace hg : g < w9.drew.heap.size := hg
 clear x0
 go_wp2_with fail
 have hg16 : g16 < w9.drew.heap.size := blk_lt K16.out
 have x0 := blk_cell (w := w9.drew) K16.out 0
 simp only [List.getElem?_toArray, List.getElem?_cons_zero, List.getElem?_cons_succ] at x0
 have r0 : w9.drew.cell? ⟨g, off, none⟩ = some (.int .i64 seq) := HX9.out 0 _ rfl
 have r1 : w9.drew.cell? ⟨g, off + 1, none⟩ = some (.bool true) := HX9.out 1 _ rfl
 have r2 : w9.drew.cell? ⟨g, off + 2, none⟩ = some (.int .i64 A) := HX9.out 2 _ rfl
 have r3 : w9.drew.cell? ⟨g, off + 3, none⟩ = some (.bool false) := HX9.out 3 _ rfl
 have r4 : w9.drew.cell? ⟨g, off + 4, none⟩ = some (.bool false) := HX9.out 4 _ rfl
 have r5 : w9.drew.cell? ⟨g, off + 5, none⟩ = some (.int .i64 (((seq : Int) + 1) % 65536)) := HX9.out 5 _ rfl
 have r6 : w9.drew.cell? ⟨g, off + 5 + 1, none⟩ = some (.bool true) := HX9.out 6 _ rfl
 have r7 : w9.drew.cell? ⟨g, off + 5 + 2, none⟩ = some (.int .i64 0) := HX9.out 7 _ rfl
 have r8 : w9.drew.cell? ⟨g, off + 5 + 3, none⟩ = some (.bool true) := HX9.out 8 _ rfl
 have r9 : w9.drew.cell? ⟨g, off + 5 + 4, none⟩ = some (.bool true) := HX9.out 9 _ rfl
 have r10 : w9.drew.cell? ⟨g, off + 10, none⟩ = some (.int .i64 (((seq : Int) + 2) % 65536)) := HX9.out 10 _ rfl
 have r11 : w9.drew.cell? ⟨g, off + 10 + 1, none⟩ = some (.bool false) := HX9.out 11 _ rfl
 have r12 : w9.drew.cell? ⟨g, off + 10 + 2, none⟩ = some (.int .i64 0) := HX9.out 12 _ rfl
 have r13 : w9.drew.cell? ⟨g, off + 10 + 3, none⟩ = some (.bool false) := HX9.out 13 _ rfl
 have r14 : w9.drew.cell? ⟨g, off + 10 + 4, none⟩ = some (.bool false) := HX9.out 14 _ rfl
 have HBz0 : Below w9.drew.heap.size w9.drew (((w9.drew.alloc (.cells #[.int .i64 0, .bool false, .int .i64 0, .bool false, .bool false] 58)).alloc (.cells #[.int .i64 0, .bool false, .int .i64 0, .bool false, .bool false] 58)).alloc (.cells #[.int .i64 0, .bool false, .int .i64 0, .bool false, .bool false] 58)) := (((Below.refl _ _).alloc (Nat.le_refl _) (.cells #[.int .i64 0, .bool false, .int .i64 0, .bool false, .bool false] 58)).alloc (by simp) (.cells #[.int .i64 0, .bool false, .int .i64 0, .bool false, .bool false] 58)).alloc (by simp; omega) (.cells #[.int .i64 0, .bool false, .int .i64 0, .bool false, .bool false] 58)
 refine start_ (n := 18) (S := fun w' => w'.cell? ⟨g16, 0, none⟩ = some (.slice (some ⟨g, off, none⟩) 3 cap) ∧ w'.cell? ⟨g, off, none⟩ = some (.int .i64 seq) ∧ w'.cell? ⟨g, off + 1, none⟩ = some (.bool true) ∧ w'.cell? ⟨g, off + 2, none⟩ = some (.int .i64 A) ∧ w'.cell? ⟨g, off + 3, none⟩ = some (.bool false) ∧ w'.cell? ⟨g, off + 4, none⟩ = some (.bool false) ∧ w'.cell? ⟨g, off + 5, none⟩ = some (.int .i64 (((seq : Int) + 1) % 65536)) ∧ w'.cell? ⟨g, off + 5 + 1, none⟩ = some (.bool true) ∧ w'.cell? ⟨g, off + 5 + 2, none⟩ = some (.int .i64 0) ∧ w'.cell? ⟨g, off + 5 + 3, none⟩ = some (.bool true) ∧ w'.cell? ⟨g, off + 5 + 4, none⟩ = some (.bool true) ∧ w'.cell? ⟨g, off + 10, none⟩ = some (.int .i64 (((seq : Int) + 2) % 65536)) ∧ w'.cell? ⟨g, off + 10 + 1, none⟩ = some (.bool false) ∧ w'.cell? ⟨g, off + 10 + 2, none⟩ = some (.int .i64 0) ∧ w'.cell? ⟨g, off + 10 + 3, none⟩ = some (.bool false) ∧ w'.cell? ⟨g, off + 10 + 4, none⟩ = some (.bool false)) (ds := [17]) #[false, false, false, false, false, false, false, false, false, false, false, false, false, false, false, false, false, false] (by kernel_rfl) rfl rfl ⟨x0, r0, r1, r2, r3, r4, r5, r6, r7, r8, r9, r10, r11, r12, r13, r14⟩ (fun hHeld => ?_)
 refine pure_ (i := 0) (N := some 79) (v := ?_) (a' := ?_) #[true, false, false, false, false, false, false, false, false, false, false, false, false, false, false, false, false, false] rfl rfl (by kernel_rfl) (fun _ _ _ h => h) (Or.inl ⟨by rfl, ?_⟩) ?_ ?_
 rotate_left
 ·intro w'
  go_simp
  with_reducible rfl
 rotate_left
 ·simp only [Act.put, List.setIfInBounds_toArray, List.set_cons_zero, List.set_cons_succ, i64_w, i32_w]
  rfl
 refine pure_ (i := 4) (N := some 83) (v := ?_) (a' := ?_) #[true, false, false, false, true, false, false, false, false, false, false, false, false, false, false, false, false, false] rfl rfl (by kernel_rfl) (fun _ _ _ h => h) (Or.inl ⟨by rfl, ?_⟩) ?_ ?_
 rotate_left
 ·intro w'
  go_simp
  with_reducible rfl
 rotate_left
 ·simp only [Act.put, List.setIfInBounds_toArray, List.set_cons_zero, List.set_cons_succ, i64_w, i32_w]
  rfl
 refine pure_ (i := 8) (N := some 87) (v := ?_) (a' := ?_) #[true, false, false, false, true, false, false, false, true, false, false, false, false, false, false, false, false, false] rfl rfl (by kernel_rfl) (fun _ _ _ h => h) (Or.inl ⟨by rfl, ?_⟩) ?_ ?_
 rotate_left
 ·intro w'
  go_simp
  with_reducible rfl
 rotate_left
 ·simp only [Act.put, List.setIfInBounds_toArray, List.set_cons_zero, List.set_cons_succ, i64_w, i32_w]
  rfl
 refine take_ (i := 1) (N := some 80) (v := ?_) (a' := ?_) #[true, true, false, false, true, false, false, false, true, false, false, false, false, false, false, false, false, false] rfl rfl (by kernel_rfl) (fun _ _ _ h => h) (Or.inl ⟨by rfl, ?_⟩) hHeld ?_ ?_
 rotate_left
 ·rintro w' ⟨s0, s1, s2, s3, s4, s5, s6, s7, s8, s9, s10, s11, s12, s13, s14, s15⟩
  go_simp
  with_reducible rfl
 rotate_left
 ·simp only [Act.put, List.setIfInBounds_toArray, List.set_cons_zero, List.set_cons_succ, i64_w, i32_w]
  rfl
 refine pure_ (i := 2) (N := some 81) (v := ?_) (a' := ?_) #[true, true, true, false, true, false, false, false, true, false, false, false, false, false, false, false, false, false] rfl rfl (by kernel_rfl) (fun _ _ _ h => h) (Or.inl ⟨by rfl, ?_⟩) ?_ ?_
 rotate_left
 ·intro w'
  go_simp
  with_reducible rfl
 rotate_left
 ·simp only [Act.put, List.setIfInBounds_toArray, List.set_cons_zero, List.set_cons_succ, i64_w, i32_w]
  rfl
 refine take_ (i := 3) (N := some 82) (v := ?_) (a' := ?_) #[true, true, true, true, true, false, false, false, true, false, false, false, false, false, false, false, false, false] rfl rfl (by kernel_rfl) (fun _ _ _ h => h) (Or.inl ⟨by rfl, ?_⟩) hHeld ?_ ?_
 rotate_left
 ·rintro w' ⟨s0, s1, s2, s3, s4, s5, s6, s7, s8, s9, s10, s11, s12, s13, s14, s15⟩
  go_simp
  with_reducible rfl
 rotate_left
 ·simp only [Act.put, List.setIfInBounds_toArray, List.set_cons_zero, List.set_cons_succ, i64_w, i32_w]
  rfl
 refine take_ (i := 5) (N := some 84) (v := ?_) (a' := ?_) #[true, true, true, true, true, true, false, false, true, false, false, false, false, false, false, false, false, false] rfl rfl (by kernel_rfl) (fun _ _ _ h => h) (Or.inl ⟨by rfl, ?_⟩) hHeld ?_ ?_
 rotate_left
 ·rintro w' ⟨s0, s1, s2, s3, s4, s5, s6, s7, s8, s9, s10, s11, s12, s13, s14, s15⟩
  go_simp
  with_reducible rfl
 rotate_left
 ·simp only [Act.put, List.setIfInBounds_toArray, List.set_cons_zero, List.set_cons_succ, i64_w, i32_w]
  rfl
 refine pure_ (i := 6) (N := some 85) (v := ?_) (a' := ?_) #[true, true, true, true, true, true, true, false, true, false, false, false, false, false, false, false, false, false] rfl rfl (by kernel_rfl) (fun _ _ _ h => h) (Or.inl ⟨by rfl, ?_⟩) ?_ ?_
 rotate_left
 ·intro w'
  go_simp
  with_reducible rfl
 rotate_left
 ·simp only [Act.put, List.setIfInBounds_toArray, List.set_cons_zero, List.set_cons_succ, i64_w, i32_w]
  rfl
 refine take_ (i := 7) (N := some 86) (v := ?_) (a' := ?_) #[true, true, true, true, true, true, true, true, true, false, false, false, false, false, false, false, false, false] rfl rfl (by kernel_rfl) (fun _ _ _ h => h) (Or.inl ⟨by rfl, ?_⟩) hHeld ?_ ?_
 rotate_left
 ·rintro w' ⟨s0, s1, s2, s3, s4, s5, s6, s7, s8, s9, s10, s11, s12, s13, s14, s15⟩
  go_simp
  with_reducible rfl
 rotate_left
 ·simp only [Act.put, List.setIfInBounds_toArray, List.set_cons_zero, List.set_cons_succ, i64_w, i32_w]
  rfl
 refine take_ (i := 9) (N := some 88) (v := ?_) (a' := ?_) #[true, true, true, true, true, true, true, true, true, true, false, false, false, false, false, false, false, false] rfl rfl (by kernel_rfl) (fun _ _ _ h => h) (Or.inl ⟨by rfl, ?_⟩) hHeld ?_ ?_
 rotate_left
 ·rintro w' ⟨s0, s1, s2, s3, s4, s5, s6, s7, s8, s9, s10, s11, s12, s13, s14, s15⟩
  go_simp
  with_reducible rfl
 rotate_left
 ·simp only [Act.put, List.setIfInBounds_toArray, List.set_cons_zero, List.set_cons_succ, i64_w, i32_w]
  rfl
 refine pure_ (i := 10) (N := some 89) (v := ?_) (a' := ?_) #[true, true, true, true, true, true, true, true, true, true, true, false, false, false, false, false, false, false] rfl rfl (by kernel_rfl) (fun _ _ _ h => h) (Or.inl ⟨by rfl, ?_⟩) ?_ ?_
 rotate_left
 ·intro w'
  go_simp
  with_reducible rfl
 rotate_left
 ·simp only [Act.put, List.setIfInBounds_toArray, List.set_cons_zero, List.set_cons_succ, i64_w, i32_w]
  rfl
 refine take_ (i := 11) (N := some 90) (v := ?_) (a' := ?_) #[true, true, true, true, true, true, true, true, true, true, true, true, false, false, false, false, false, false] rfl rfl (by kernel_rfl) (fun _ _ _ h => h) (Or.inl ⟨by rfl, ?_⟩) hHeld ?_ ?_
 rotate_left
 ·rintro w' ⟨s0, s1, s2, s3, s4, s5, s6, s7, s8, s9, s10, s11, s12, s13, s14, s15⟩
  go_simp
  with_reducible rfl
 rotate_left
 ·simp only [Act.put, List.setIfInBounds_toArray, List.set_cons_zero, List.set_cons_succ, i64_w, i32_w]
  rfl
 refine join_ (σ := Nat × Nat × Nat) 3 #[true, true, true, true, true, true, true, true, true, true, true, true, true, true, true, false, false, false] (fun s => [(18, .pointer (some ⟨s.1, 0, none⟩)), (19, .pointer (some ⟨s.2.1, 0, none⟩)), (20, .pointer (some ⟨s.2.2, 0, none⟩))]) (fun s w' => (s.1 ≠ s.2.1 ∧ s.1 ≠ s.2.2 ∧ s.2.1 ≠ s.2.2 ∧ w9.heap.size ≤ s.1 ∧ w9.heap.size ≤ s.2.1 ∧ w9.heap.size ≤ s.2.2 ∧ w'.heap[s.1]? = some (.cells #[.int .i64 0, .bool false, .int .i64 0, .bool false, .bool false] 58 (0, 0)) ∧ w'.heap[s.2.1]? = some (.cells #[.int .i64 0, .bool false, .int .i64 0, .bool false, .bool false] 58 (0, 0)) ∧ w'.heap[s.2.2]? = some (.cells #[.int .i64 0, .bool false, .int .i64 0, .bool false, .bool false] 58 (0, 0)) ∧ w' = ((w9.drew.alloc (.cells #[.int .i64 0, .bool false, .int .i64 0, .bool false, .bool false] 58)).alloc (.cells #[.int .i64 0, .bool false, .int .i64 0, .bool false, .bool false] 58)).alloc (.cells #[.int .i64 0, .bool false, .int .i64 0, .bool false, .bool false] 58))) ?_ ?_
 rotate_left
 ·intro hCont
  refine three_ (i := 12) (j := 13) (k := 14) (Ni := some 18) (Nj := some 19) (Nk := some 20) #[true, true, true, true, true, true, true, true, true, true, true, true, true, false, false, false, false, false] #[true, true, true, true, true, true, true, true, true, true, true, true, false, true, false, false, false, false] #[true, true, true, true, true, true, true, true, true, true, true, true, false, false, true, false, false, false] rfl rfl rfl rfl rfl rfl (by kernel_rfl) (by decide) (by decide) (by decide) (fun K hK => ?_) (fun K hK => ?_) (fun K hK => ?_)
  ·skip
   refine value_ (w1 := ?_) (v := ?_) (by rfl) rfl ?_ ?_
   rotate_left 2
   ·go_simp
    constructor
    ·rfl
    ·rfl
   refine hK.out _ _ ⟨((sx_alloc 1 hg16 x0)), ((sx_alloc 1 hg r0)), ((sx_alloc 1 hg r1)), ((sx_alloc 1 hg r2)), ((sx_alloc 1 hg r3)), ((sx_alloc 1 hg r4)), ((sx_alloc 1 hg r5)), ((sx_alloc 1 hg r6)), ((sx_alloc 1 hg r7)), ((sx_alloc 1 hg r8)), ((sx_alloc 1 hg r9)), ((sx_alloc 1 hg r10)), ((sx_alloc 1 hg r11)), ((sx_alloc 1 hg r12)), ((sx_alloc 1 hg r13)), ((sx_alloc 1 hg r14))⟩ (fun hHeld => ?_)
   clear hK K
   refine norm_ (a' := ?_) ?_ ?_
   rotate_left
   ·show Act.put _ (some 18) _ = _
    simp only [Act.put, List.setIfInBounds_toArray, List.set_cons_zero, List.set_cons_succ, i64_w, i32_w]
    rfl
   refine two_ (i := 13) (j := 14) (Ni := some 19) (Nj := some 20) #[true, true, true, true, true, true, true, true, true, true, true, true, true, true, false, false, false, false] #[true, true, true, true, true, true, true, true, true, true, true, true, true, false, true, false, false, false] rfl rfl rfl rfl (by kernel_rfl) (by decide) (by decide) (fun K hK => ?_) (fun K hK => ?_)
   ·skip
    refine value_ (w1 := ?_) (v := ?_) (by rfl) rfl ?_ ?_
    rotate_left 2
    ·go_simp
     constructor
     ·rfl
     ·rfl
    refine hK.out _ _ ⟨((sx_alloc 2 hg16 x0)), ((sx_alloc 2 hg r0)), ((sx_alloc 2 hg r1)), ((sx_alloc 2 hg r2)), ((sx_alloc 2 hg r3)), ((sx_alloc 2 hg r4)), ((sx_alloc 2 hg r5)), ((sx_alloc 2 hg r6)), ((sx_alloc 2 hg r7)), ((sx_alloc 2 hg r8)), ((sx_alloc 2 hg r9)), ((sx_alloc 2 hg r10)), ((sx_alloc 2 hg r11)), ((sx_alloc 2 hg r12)), ((sx_alloc 2 hg r13)), ((sx_alloc 2 hg r14))⟩ (fun hHeld => ?_)
    clear hK K
    refine norm_ (a' := ?_) ?_ ?_
    rotate_left
    ·show Act.put _ (some 19) _ = _
     simp only [Act.put, List.setIfInBounds_toArray, List.set_cons_zero, List.set_cons_succ, i64_w, i32_w]
     rfl
    refine one_ (i := 14) (N := some 20) #[true, true, true, true, true, true, true, true, true, true, true, true, true, true, true, false, false, false] rfl rfl (by kernel_rfl) (by decide) (fun K hK => ?_)
    refine value_ (w1 := ?_) (v := ?_) (by rfl) rfl ?_ ?_
    rotate_left 2
    ·go_simp
     constructor
     ·rfl
     ·rfl
    refine hK.out _ _ ⟨((sx_alloc 3 hg16 x0)), ((sx_alloc 3 hg r0)), ((sx_alloc 3 hg r1)), ((sx_alloc 3 hg r2)), ((sx_alloc 3 hg r3)), ((sx_alloc 3 hg r4)), ((sx_alloc 3 hg r5)), ((sx_alloc 3 hg r6)), ((sx_alloc 3 hg r7)), ((sx_alloc 3 hg r8)), ((sx_alloc 3 hg r9)), ((sx_alloc 3 hg r10)), ((sx_alloc 3 hg r11)), ((sx_alloc 3 hg r12)), ((sx_alloc 3 hg r13)), ((sx_alloc 3 hg r14))⟩ (fun hHeld => ?_)
    clear hK K
    refine norm_ (a' := ?_) ?_ ?_
    rotate_left
    ·show Act.put _ (some 20) _ = _
     simp only [Act.put, List.setIfInBounds_toArray, List.set_cons_zero, List.set_cons_succ, i64_w, i32_w]
     rfl
    exact norm_ (by simp only [putAll, Act.put, List.setIfInBounds_toArray, List.set_cons_zero, List.set_cons_succ]) (hCont (w9.heap.size, (w9.heap.size + 1), (w9.heap.size + 2)) _ ⟨by dsimp only; omega, by dsimp only; omega, by dsimp only; omega, by dsimp only; omega, by dsimp only; omega, by dsimp only; omega, bz3 w9.drew (.cells #[.int .i64 0, .bool false, .int .i64 0, .bool false, .bool false] 58) 0 (by omega), bz3 w9.drew (.cells #[.int .i64 0, .bool false, .int .i64 0, .bool false, .bool false] 58) 1 (by omega), bz3 w9.drew (.cells #[.int .i64 0, .bool false, .int .i64 0, .bool false, .bool false] 58) 2 (by omega), rfl⟩)
   ·skip
    refine value_ (w1 := ?_) (v := ?_) (by rfl) rfl ?_ ?_
    rotate_left 2
    ·go_simp
     constructor
     ·rfl
     ·rfl
    refine hK.out _ _ ⟨((sx_alloc 2 hg16 x0)), ((sx_alloc 2 hg r0)), ((sx_alloc 2 hg r1)), ((sx_alloc 2 hg r2)), ((sx_alloc 2 hg r3)), ((sx_alloc 2 hg r4)), ((sx_alloc 2 hg r5)), ((sx_alloc 2 hg r6)), ((sx_alloc 2 hg r7)), ((sx_alloc 2 hg r8)), ((sx_alloc 2 hg r9)), ((sx_alloc 2 hg r10)), ((sx_alloc 2 hg r11)), ((sx_alloc 2 hg r12)), ((sx_alloc 2 hg r13)), ((sx_alloc 2 hg r14))⟩ (fun hHeld => ?_)
    clear hK K
    refine norm_ (a' := ?_) ?_ ?_
    rotate_left
    ·show Act.put _ (some 20) _ = _
     simp only [Act.put, List.setIfInBounds_toArray, List.set_cons_zero, List.set_cons_succ, i64_w, i32_w]
     rfl
    refine one_ (i := 13) (N := some 19) #[true, true, true, true, true, true, true, true, true, true, true, true, true, true, true, false, false, false] rfl rfl (by kernel_rfl) (by decide) (fun K hK => ?_)
    refine value_ (w1 := ?_) (v := ?_) (by rfl) rfl ?_ ?_
    rotate_left 2
    ·go_simp
     constructor
     ·rfl
     ·rfl
    refine hK.out _ _ ⟨((sx_alloc 3 hg16 x0)), ((sx_alloc 3 hg r0)), ((sx_alloc 3 hg r1)), ((sx_alloc 3 hg r2)), ((sx_alloc 3 hg r3)), ((sx_alloc 3 hg r4)), ((sx_alloc 3 hg r5)), ((sx_alloc 3 hg r6)), ((sx_alloc 3 hg r7)), ((sx_alloc 3 hg r8)), ((sx_alloc 3 hg r9)), ((sx_alloc 3 hg r10)), ((sx_alloc 3 hg r11)), ((sx_alloc 3 hg r12)), ((sx_alloc 3 hg r13)), ((sx_alloc 3 hg r14))⟩ (fun hHeld => ?_)
    clear hK K
    refine norm_ (a' := ?_) ?_ ?_
    rotate_left
    ·show Act.put _ (some 19) _ = _
     simp only [Act.put, List.setIfInBounds_toArray, List.set_cons_zero, List.set_cons_succ, i64_w, i32_w]
     rfl
    exact norm_ (by simp only [putAll, Act.put, List.setIfInBounds_toArray, List.set_cons_zero, List.set_cons_succ]) (hCont (w9.heap.size, (w9.heap.size + 2), (w9.heap.size + 1)) _ ⟨by dsimp only; omega, by dsimp only; omega, by dsimp only; omega, by dsimp only; omega, by dsimp only; omega, by dsimp only; omega, bz3 w9.drew (.cells #[.int .i64 0, .bool false, .int .i64 0, .bool false, .bool false] 58) 0 (by omega), bz3 w9.drew (.cells #[.int .i64 0, .bool false, .int .i64 0, .bool false, .bool false] 58) 2 (by omega), bz3 w9.drew (.cells #[.int .i64 0, .bool false, .int .i64 0, .bool false, .bool false] 58) 1 (by omega), rfl⟩)
  ·skip
   refine value_ (w1 := ?_) (v := ?_) (by rfl) rfl ?_ ?_
   rotate_left 2
   ·go_simp
    constructor
    ·rfl
    ·rfl
   refine hK.out _ _ ⟨((sx_alloc 1 hg16 x0)), ((sx_alloc 1 hg r0)), ((sx_alloc 1 hg r1)), ((sx_alloc 1 hg r2)), ((sx_alloc 1 hg r3)), ((sx_alloc 1 hg r4)), ((sx_alloc 1 hg r5)), ((sx_alloc 1 hg r6)), ((sx_alloc 1 hg r7)), ((sx_alloc 1 hg r8)), ((sx_alloc 1 hg r9)), ((sx_alloc 1 hg r10)), ((sx_alloc 1 hg r11)), ((sx_alloc 1 hg r12)), ((sx_alloc 1 hg r13)), ((sx_alloc 1 hg r14))⟩ (fun hHeld => ?_)
   clear hK K
   refine norm_ (a' := ?_) ?_ ?_
   rotate_left
   ·show Act.put _ (some 19) _ = _
    simp only [Act.put, List.setIfInBounds_toArray, List.set_cons_zero, List.set_cons_succ, i64_w, i32_w]
    rfl
   refine two_ (i := 12) (j := 14) (Ni := some 18) (Nj := some 20) #[true, true, true, true, true, true, true, true, true, true, true, true, true, true, false, false, false, false] #[true, true, true, true, true, true, true, true, true, true, true, true, false, true, true, false, false, false] rfl rfl rfl rfl (by kernel_rfl) (by decide) (by decide) (fun K hK => ?_) (fun K hK => ?_)
   ·skip
    refine value_ (w1 := ?_) (v := ?_) (by rfl) rfl ?_ ?_
    rotate_left 2
    ·go_simp
     constructor
     ·rfl
     ·rfl
    refine hK.out _ _ ⟨((sx_alloc 2 hg16 x0)), ((sx_alloc 2 hg r0)), ((sx_alloc 2 hg r1)), ((sx_alloc 2 hg r2)), ((sx_alloc 2 hg r3)), ((sx_alloc 2 hg r4)), ((sx_alloc 2 hg r5)), ((sx_alloc 2 hg r6)), ((sx_alloc 2 hg r7)), ((sx_alloc 2 hg r8)), ((sx_alloc 2 hg r9)), ((sx_alloc 2 hg r10)), ((sx_alloc 2 hg r11)), ((sx_alloc 2 hg r12)), ((sx_alloc 2 hg r13)), ((sx_alloc 2 hg r14))⟩ (fun hHeld => ?_)
    clear hK K
    refine norm_ (a' := ?_) ?_ ?_
    rotate_left
    ·show Act.put _ (some 18) _ = _
     simp only [Act.put, List.setIfInBounds_toArray, List.set_cons_zero, List.set_cons_succ, i64_w, i32_w]
     rfl
    refine one_ (i := 14) (N := some 20) #[true, true, true, true, true, true, true, true, true, true, true, true, true, true, true, false, false, false] rfl rfl (by kernel_rfl) (by decide) (fun K hK => ?_)
    refine value_ (w1 := ?_) (v := ?_) (by rfl) rfl ?_ ?_
    rotate_left 2
    ·go_simp
     constructor
     ·rfl
     ·rfl
    refine hK.out _ _ ⟨((sx_alloc 3 hg16 x0)), ((sx_alloc 3 hg r0)), ((sx_alloc 3 hg r1)), ((sx_alloc 3 hg r2)), ((sx_alloc 3 hg r3)), ((sx_alloc 3 hg r4)), ((sx_alloc 3 hg r5)), ((sx_alloc 3 hg r6)), ((sx_alloc 3 hg r7)), ((sx_alloc 3 hg r8)), ((sx_alloc 3 hg r9)), ((sx_alloc 3 hg r10)), ((sx_alloc 3 hg r11)), ((sx_alloc 3 hg r12)), ((sx_alloc 3 hg r13)), ((sx_alloc 3 hg r14))⟩ (fun hHeld => ?_)
    clear hK K
    refine norm_ (a' := ?_) ?_ ?_
    rotate_left
    ·show Act.put _ (some 20) _ = _
     simp only [Act.put, List.setIfInBounds_toArray, List.set_cons_zero, List.set_cons_succ, i64_w, i32_w]
     rfl
    exact norm_ (by simp only [putAll, Act.put, List.setIfInBounds_toArray, List.set_cons_zero, List.set_cons_succ]) (hCont ((w9.heap.size + 1), w9.heap.size, (w9.heap.size + 2)) _ ⟨by dsimp only; omega, by dsimp only; omega, by dsimp only; omega, by dsimp only; omega, by dsimp only; omega, by dsimp only; omega, bz3 w9.drew (.cells #[.int .i64 0, .bool false, .int .i64 0, .bool false, .bool false] 58) 1 (by omega), bz3 w9.drew (.cells #[.int .i64 0, .bool false, .int .i64 0, .bool false, .bool false] 58) 0 (by omega), bz3 w9.drew (.cells #[.int .i64 0, .bool false, .int .i64 0, .bool false, .bool false] 58) 2 (by omega), rfl⟩)
   ·skip
    refine value_ (w1 := ?_) (v := ?_) (by rfl) rfl ?_ ?_
    rotate_left 2
    ·go_simp
     constructor
     ·rfl
     ·rfl
    refine hK.out _ _ ⟨((sx_alloc 2 hg16 x0)), ((sx_alloc 2 hg r0)), ((sx_alloc 2 hg r1)), ((sx_alloc 2 hg r2)), ((sx_alloc 2 hg r3)), ((sx_alloc 2 hg r4)), ((sx_alloc 2 hg r5)), ((sx_alloc 2 hg r6)), ((sx_alloc 2 hg r7)), ((sx_alloc 2 hg r8)), ((sx_alloc 2 hg r9)), ((sx_alloc 2 hg r10)), ((sx_alloc 2 hg r11)), ((sx_alloc 2 hg r12)), ((sx_alloc 2 hg r13)), ((sx_alloc 2 hg r14))⟩ (fun hHeld => ?_)
    clear hK K
    refine norm_ (a' := ?_) ?_ ?_
    rotate_left
    ·show Act.put _ (some 20) _ = _
     simp only [Act.put, List.setIfInBounds_toArray, List.set_cons_zero, List.set_cons_succ, i64_w, i32_w]
     rfl
    refine one_ (i := 12) (N := some 18) #[true, true, true, true, true, true, true, true, true, true, true, true, true, true, true, false, false, false] rfl rfl (by kernel_rfl) (by decide) (fun K hK => ?_)
    refine value_ (w1 := ?_) (v := ?_) (by rfl) rfl ?_ ?_
    rotate_left 2
    ·go_simp
     constructor
     ·rfl
     ·rfl
    refine hK.out _ _ ⟨((sx_alloc 3 hg16 x0)), ((sx_alloc 3 hg r0)), ((sx_alloc 3 hg r1)), ((sx_alloc 3 hg r2)), ((sx_alloc 3 hg r3)), ((sx_alloc 3 hg r4)), ((sx_alloc 3 hg r5)), ((sx_alloc 3 hg r6)), ((sx_alloc 3 hg r7)), ((sx_alloc 3 hg r8)), ((sx_alloc 3 hg r9)), ((sx_alloc 3 hg r10)), ((sx_alloc 3 hg r11)), ((sx_alloc 3 hg r12)), ((sx_alloc 3 hg r13)), ((sx_alloc 3 hg r14))⟩ (fun hHeld => ?_)
    clear hK K
    refine norm_ (a' := ?_) ?_ ?_
    rotate_left
    ·show Act.put _ (some 18) _ = _
     simp only [Act.put, List.setIfInBounds_toArray, List.set_cons_zero, List.set_cons_succ, i64_w, i32_w]
     rfl
    exact norm_ (by simp only [putAll, Act.put, List.setIfInBounds_toArray, List.set_cons_zero, List.set_cons_succ]) (hCont ((w9.heap.size + 2), w9.heap.size, (w9.heap.size + 1)) _ ⟨by dsimp only; omega, by dsimp only; omega, by dsimp only; omega, by dsimp only; omega, by dsimp only; omega, by dsimp only; omega, bz3 w9.drew (.cells #[.int .i64 0, .bool false, .int .i64 0, .bool false, .bool false] 58) 2 (by omega), bz3 w9.drew (.cells #[.int .i64 0, .bool false, .int .i64 0, .bool false, .bool false] 58) 0 (by omega), bz3 w9.drew (.cells #[.int .i64 0, .bool false, .int .i64 0, .bool false, .bool false] 58) 1 (by omega), rfl⟩)
  ·skip
   refine value_ (w1 := ?_) (v := ?_) (by rfl) rfl ?_ ?_
   rotate_left 2
   ·go_simp
    constructor
    ·rfl
    ·rfl
   refine hK.out _ _ ⟨((sx_alloc 1 hg16 x0)), ((sx_alloc 1 hg r0)), ((sx_alloc 1 hg r1)), ((sx_alloc 1 hg r2)), ((sx_alloc 1 hg r3)), ((sx_alloc 1 hg r4)), ((sx_alloc 1 hg r5)), ((sx_alloc 1 hg r6)), ((sx_alloc 1 hg r7)), ((sx_alloc 1 hg r8)), ((sx_alloc 1 hg r9)), ((sx_alloc 1 hg r10)), ((sx_alloc 1 hg r11)), ((sx_alloc 1 hg r12)), ((sx_alloc 1 hg r13)), ((sx_alloc 1 hg r14))⟩ (fun hHeld => ?_)
   clear hK K
   refine norm_ (a' := ?_) ?_ ?_
   rotate_left
   ·show Act.put _ (some 20) _ = _
    simp only [Act.put, List.setIfInBounds_toArray, List.set_cons_zero, List.set_cons_succ, i64_w, i32_w]
    rfl
   refine two_ (i := 12) (j := 13) (Ni := some 18) (Nj := some 19) #[true, true, true, true, true, true, true, true, true, true, true, true, true, false, true, false, false, false] #[true, true, true, true, true, true, true, true, true, true, true, true, false, true, true, false, false, false] rfl rfl rfl rfl (by kernel_rfl) (by decide) (by decide) (fun K hK => ?_) (fun K hK => ?_)
   ·skip
    refine value_ (w1 := ?_) (v := ?_) (by rfl) rfl ?_ ?_
    rotate_left 2
    ·go_simp
     constructor
     ·rfl
     ·rfl
    refine hK.out _ _ ⟨((sx_alloc 2 hg16 x0)), ((sx_alloc 2 hg r0)), ((sx_alloc 2 hg r1)), ((sx_alloc 2 hg r2)), ((sx_alloc 2 hg r3)), ((sx_alloc 2 hg r4)), ((sx_alloc 2 hg r5)), ((sx_alloc 2 hg r6)), ((sx_alloc 2 hg r7)), ((sx_alloc 2 hg r8)), ((sx_alloc 2 hg r9)), ((sx_alloc 2 hg r10)), ((sx_alloc 2 hg r11)), ((sx_alloc 2 hg r12)), ((sx_alloc 2 hg r13)), ((sx_alloc 2 hg r14))⟩ (fun hHeld => ?_)
    clear hK K
    refine norm_ (a' := ?_) ?_ ?_
    rotate_left
    ·show Act.put _ (some 18) _ = _
     simp only [Act.put, List.setIfInBounds_toArray, List.set_cons_zero, List.set_cons_succ, i64_w, i32_w]
     rfl
    refine one_ (i := 13) (N := some 19) #[true, true, true, true, true, true, true, true, true, true, true, true, true, true, true, false, false, false] rfl rfl (by kernel_rfl) (by decide) (fun K hK => ?_)
    refine value_ (w1 := ?_) (v := ?_) (by rfl) rfl ?_ ?_
    rotate_left 2
    ·go_simp
     constructor
     ·rfl
     ·rfl
    refine hK.out _ _ ⟨((sx_alloc 3 hg16 x0)), ((sx_alloc 3 hg r0)), ((sx_alloc 3 hg r1)), ((sx_alloc 3 hg r2)), ((sx_alloc 3 hg r3)), ((sx_alloc 3 hg r4)), ((sx_alloc 3 hg r5)), ((sx_alloc 3 hg r6)), ((sx_alloc 3 hg r7)), ((sx_alloc 3 hg r8)), ((sx_alloc 3 hg r9)), ((sx_alloc 3 hg r10)), ((sx_alloc 3 hg r11)), ((sx_alloc 3 hg r12)), ((sx_alloc 3 hg r13)), ((sx_alloc 3 hg r14))⟩ (fun hHeld => ?_)
    clear hK K
    refine norm_ (a' := ?_) ?_ ?_
    rotate_left
    ·show Act.put _ (some 19) _ = _
     simp only [Act.put, List.setIfInBounds_toArray, List.set_cons_zero, List.set_cons_succ, i64_w, i32_w]
     rfl
    exact norm_ (by simp only [putAll, Act.put, List.setIfInBounds_toArray, List.set_cons_zero, List.set_cons_succ]) (hCont ((w9.heap.size + 1), (w9.heap.size + 2), w9.heap.size) _ ⟨by dsimp only; omega, by dsimp only; omega, by dsimp only; omega, by dsimp only; omega, by dsimp only; omega, by dsimp only; omega, bz3 w9.drew (.cells #[.int .i64 0, .bool false, .int .i64 0, .bool false, .bool false] 58) 1 (by omega), bz3 w9.drew (.cells #[.int .i64 0, .bool false, .int .i64 0, .bool false, .bool false] 58) 2 (by omega), bz3 w9.drew (.cells #[.int .i64 0, .bool false, .int .i64 0, .bool false, .bool false] 58) 0 (by omega), rfl⟩)
   ·skip
    refine value_ (w1 := ?_) (v := ?_) (by rfl) rfl ?_ ?_
    rotate_left 2
    ·go_simp
     constructor
     ·rfl
     ·rfl
    refine hK.out _ _ ⟨((sx_alloc 2 hg16 x0)), ((sx_alloc 2 hg r0)), ((sx_alloc 2 hg r1)), ((sx_alloc 2 hg r2)), ((sx_alloc 2 hg r3)), ((sx_alloc 2 hg r4)), ((sx_alloc 2 hg r5)), ((sx_alloc 2 hg r6)), ((sx_alloc 2 hg r7)), ((sx_alloc 2 hg r8)), ((sx_alloc 2 hg r9)), ((sx_alloc 2 hg r10)), ((sx_alloc 2 hg r11)), ((sx_alloc 2 hg r12)), ((sx_alloc 2 hg r13)), ((sx_alloc 2 hg r14))⟩ (fun hHeld => ?_)
    clear hK K
    refine norm_ (a' := ?_) ?_ ?_
    rotate_left
    ·show Act.put _ (some 19) _ = _
     simp only [Act.put, List.setIfInBounds_toArray, List.set_cons_zero, List.set_cons_succ, i64_w, i32_w]
     rfl
    refine one_ (i := 12) (N := some 18) #[true, true, true, true, true, true, true, true, true, true, true, true, true, true, true, false, false, false] rfl rfl (by kernel_rfl) (by decide) (fun K hK => ?_)
    refine value_ (w1 := ?_) (v := ?_) (by rfl) rfl ?_ ?_
    rotate_left 2
    ·go_simp
     constructor
     ·rfl
     ·rfl
    refine hK.out _ _ ⟨((sx_alloc 3 hg16 x0)), ((sx_alloc 3 hg r0)), ((sx_alloc 3 hg r1)), ((sx_alloc 3 hg r2)), ((sx_alloc 3 hg r3)), ((sx_alloc 3 hg r4)), ((sx_alloc 3 hg r5)), ((sx_alloc 3 hg r6)), ((sx_alloc 3 hg r7)), ((sx_alloc 3 hg r8)), ((sx_alloc 3 hg r9)), ((sx_alloc 3 hg r10)), ((sx_alloc 3 hg r11)), ((sx_alloc 3 hg r12)), ((sx_alloc 3 hg r13)), ((sx_alloc 3 hg r14))⟩ (fun hHeld => ?_)
    clear hK K
    refine norm_ (a' := ?_) ?_ ?_
    rotate_left
    ·show Act.put _ (some 18) _ = _
     simp only [Act.put, List.setIfInBounds_toArray, List.set_cons_zero, List.set_cons_succ, i64_w, i32_w]
     rfl
    exact norm_ (by simp only [putAll, Act.put, List.setIfInBounds_toArray, List.set_cons_zero, List.set_cons_succ]) (hCont ((w9.heap.size + 2), (w9.heap.size + 1), w9.heap.size) _ ⟨by dsimp only; omega, by dsimp only; omega, by dsimp only; omega, by dsimp only; omega, by dsimp only; omega, by dsimp only; omega, bz3 w9.drew (.cells #[.int .i64 0, .bool false, .int .i64 0, .bool false, .bool false] 58) 2 (by omega), bz3 w9.drew (.cells #[.int .i64 0, .bool false, .int .i64 0, .bool false, .bool false] 58) 1 (by omega), bz3 w9.drew (.cells #[.int .i64 0, .bool false, .int .i64 0, .bool false, .bool false] 58) 0 (by omega), rfl⟩)
 rintro ⟨p18, p19, p20⟩ wz ⟨d1, d2, d3, l1, l2, l3, z18, z19, z20, hwz⟩
 dsimp only at d1 d2 d3 l1 l2 l3 z18 z19 z20 ⊢
 have hHeld : wz.cell? ⟨g16, 0, none⟩ = some (.slice (some ⟨g, off, none⟩) 3 cap) ∧ wz.cell? ⟨g, off, none⟩ = some (.int .i64 seq) ∧ wz.cell? ⟨g, off + 1, none⟩ = some (.bool true) ∧ wz.cell? ⟨g, off + 2, none⟩ = some (.int .i64 A) ∧ wz.cell? ⟨g, off + 3, none⟩ = some (.bool false) ∧ wz.cell? ⟨g, off + 4, none⟩ = some (.bool false) ∧ wz.cell? ⟨g, off + 5, none⟩ = some (.int .i64 (((seq : Int) + 1) % 65536)) ∧ wz.cell? ⟨g, off + 5 + 1, none⟩ = some (.bool true) ∧ wz.cell? ⟨g, off + 5 + 2, none⟩ = some (.int .i64 0) ∧ wz.cell? ⟨g, off + 5 + 3, none⟩ = some (.bool true) ∧ wz.cell? ⟨g, off + 5 + 4, none⟩ = some (.bool true) ∧ wz.cell? ⟨g, off + 10, none⟩ = some (.int .i64 (((seq : Int) + 2) % 65536)) ∧ wz.cell? ⟨g, off + 10 + 1, none⟩ = some (.bool false) ∧ wz.cell? ⟨g, off + 10 + 2, none⟩ = some (.int .i64 0) ∧ wz.cell? ⟨g, off + 10 + 3, none⟩ = some (.bool false) ∧ wz.cell? ⟨g, off + 10 + 4, none⟩ = some (.bool false) := hwz ▸ ⟨(sx_alloc 3 hg16 x0), (sx_alloc 3 hg r0), (sx_alloc 3 hg r1), (sx_alloc 3 hg r2), (sx_alloc 3 hg r3), (sx_alloc 3 hg r4), (sx_alloc 3 hg r5), (sx_alloc 3 hg r6), (sx_alloc 3 hg r7), (sx_alloc 3 hg r8), (sx_alloc 3 hg r9), (sx_alloc 3 hg r10), (sx_alloc 3 hg r11), (sx_alloc 3 hg r12), (sx_alloc 3 hg r13), (sx_alloc 3 hg r14)⟩
 replace HBz0 : Below w9.drew.heap.size w9.drew wz := by rw [hwz]; exact HBz0
 clear hwz
 refine norm_ (a' := ?_) ?_ ?_
 rotate_left
 ·simp only [putAll, Act.put, List.setIfInBounds_toArray, List.set_cons_zero, List.set_cons_succ]
  rfl
 refine one_ (i := 15) (N := none) #[true, true, true, true, true, true, true, true, true, true, true, true, true, true, true, true, false, false] rfl rfl (by kernel_rfl) (by decide) (fun K hK => ?_)
 have u0 := blk_cell z18 0
 have u1 := blk_cell z18 1
 have u2 := blk_cell z18 2
 have u3 := blk_cell z18 3
 have u4 := blk_cell z18 4
 simp only [List.getElem?_toArray, List.getElem?_cons_zero, List.getElem?_cons_succ] at u0 u1 u2 u3 u4
 have uf0 := blk_frozen z18 0
 have uf1 := blk_frozen z18 1
 have uf2 := blk_frozen z18 2
 have uf3 := blk_frozen z18 3
 have uf4 := blk_frozen z18 4
 refine skip_ (w1 := ?_) (by rfl) rfl ?_ ?_
 rotate_left
 ·go_simp
  rfl
 obtain ⟨wz1, hwz1⟩ : ∃ w, w = (((((wz.setCell ⟨p18, 0, none⟩ (.int .i64 seq)).setCell ⟨p18, 1, none⟩ (.bool true)).setCell ⟨p18, 2, none⟩ (.int .i64 A)).setCell ⟨p18, 3, none⟩ (.bool false)).setCell ⟨p18, 4, none⟩ (.bool false)) := ⟨_, rfl⟩
 rw [← hwz1]
 have HBz1 := st5_below (show w9.drew.heap.size ≤ p18 from l1) HBz0 hwz1
 have y18 := st5_at z18 hwz1
 have y19_ := st5_far (show p19 ≠ p18 by omega) z19 hwz1
 have y20_ := st5_far (show p20 ≠ p18 by omega) z20 hwz1
 clear z19
 have z19 := y19_
 clear y19_
 clear z20
 have z20 := y20_
 clear y20_
 clear hwz1 z18
 have u0 := blk_cell z19 0
 have u1 := blk_cell z19 1
 have u2 := blk_cell z19 2
 have u3 := blk_cell z19 3
 have u4 := blk_cell z19 4
 simp only [List.getElem?_toArray, List.getElem?_cons_zero, List.getElem?_cons_succ] at u0 u1 u2 u3 u4
 have uf0 := blk_frozen z19 0
 have uf1 := blk_frozen z19 1
 have uf2 := blk_frozen z19 2
 have uf3 := blk_frozen z19 3
 have uf4 := blk_frozen z19 4
 refine hK.out _ _ ⟨(sx_below HBz1 hg16 x0), (sx_below HBz1 hg r0), (sx_below HBz1 hg r1), (sx_below HBz1 hg r2), (sx_below HBz1 hg r3), (sx_below HBz1 hg r4), (sx_below HBz1 hg r5), (sx_below HBz1 hg r6), (sx_below HBz1 hg r7), (sx_below HBz1 hg r8), (sx_below HBz1 hg r9), (sx_below HBz1 hg r10), (sx_below HBz1 hg r11), (sx_below HBz1 hg r12), (sx_below HBz1 hg r13), (sx_below HBz1 hg r14)⟩ (fun hHeld => ?_)
 clear hK K
 refine one_ (i := 16) (N := none) #[true, true, true, true, true, true, true, true, true, true, true, true, true, true, true, true, true, false] rfl rfl (by kernel_rfl) (by decide) (fun K hK => ?_)
 refine skip_ (w1 := ?_) (by rfl) rfl ?_ ?_
 rotate_left
 ·go_simp
  rfl
 obtain ⟨wz2, hwz2⟩ : ∃ w, w = (((((wz1.setCell ⟨p19, 0, none⟩ (.int .i64 (((seq : Int) + 1) % 65536))).setCell ⟨p19, 1, none⟩ (.bool true)).setCell ⟨p19, 2, none⟩ (.int .i64 0)).setCell ⟨p19, 3, none⟩ (.bool true)).setCell ⟨p19, 4, none⟩ (.bool true)) := ⟨_, rfl⟩
 rw [← hwz2]
 have HBz2 := st5_below (show w9.drew.heap.size ≤ p19 from l2) HBz1 hwz2
 have y19 := st5_at z19 hwz2
 have y18_ := st5_far (show p18 ≠ p19 by omega) y18 hwz2
 have y20_ := st5_far (show p20 ≠ p19 by omega) z20 hwz2
 clear y18
 have y18 := y18_
 clear y18_
 clear z20
 have z20 := y20_
 clear y20_
 clear hwz2 z19
 have u0 := blk_cell z20 0
 have u1 := blk_cell z20 1
 have u2 := blk_cell z20 2
 have u3 := blk_cell z20 3
 have u4 := blk_cell z20 4
 simp only [List.getElem?_toArray, List.getElem?_cons_zero, List.getElem?_cons_succ] at u0 u1 u2 u3 u4
 have uf0 := blk_frozen z20 0
 have uf1 := blk_frozen z20 1
 have uf2 := blk_frozen z20 2
 have uf3 := blk_frozen z20 3
 have uf4 := blk_frozen z20 4
 refine hK.out _ _ ⟨(sx_below HBz2 hg16 x0), (sx_below HBz2 hg r0), (sx_below HBz2 hg r1), (sx_below HBz2 hg r2), (sx_below HBz2 hg r3), (sx_below HBz2 hg r4), (sx_below HBz2 hg r5), (sx_below HBz2 hg r6), (sx_below HBz2 hg r7), (sx_below HBz2 hg r8), (sx_below HBz2 hg r9), (sx_below HBz2 hg r10), (sx_below HBz2 hg r11), (sx_below HBz2 hg r12), (sx_below HBz2 hg r13), (sx_below HBz2 hg r14)⟩ (fun hHeld => ?_)
 clear hK K
 refine last_ (i := 17) (N := none) #[true, true, true, true, true, true, true, true, true, true, true, true, true, true, true, true, true, true] rfl rfl (by kernel_rfl) (by decide) (fun K hK => ?_)
 refine skip_ (w1 := ?_) (by rfl) rfl ?_ ?_
 rotate_left
 ·go_simp
  rfl
 obtain ⟨wz3, hwz3⟩ : ∃ w, w = (((((wz2.setCell ⟨p20, 0, none⟩ (.int .i64 (((seq : Int) + 2) % 65536))).setCell ⟨p20, 1, none⟩ (.bool false)).setCell ⟨p20, 2, none⟩ (.int .i64 0)).setCell ⟨p20, 3, none⟩ (.bool false)).setCell ⟨p20, 4, none⟩ (.bool false)) := ⟨_, rfl⟩
 rw [← hwz3]
 have HBz3 := st5_below (show w9.drew.heap.size ≤ p20 from l3) HBz2 hwz3
 have y20 := st5_at z20 hwz3
 have y18_ := st5_far (show p18 ≠ p20 by omega) y18 hwz3
 have y19_ := st5_far (show p19 ≠ p20 by omega) y19 hwz3
 clear y18
 have y18 := y18_
 clear y18_
 clear y19
 have y19 := y19_
 clear y19_
 clear hwz3 z20
 refine hK.out _ _ ?_
 clear hK K
 refine done_ (by kernel_rfl) ?_
 try clear hHeld
 clear x0 r0 r1 r2 r3 r4 r5 r6 r7 r8 r9 r10 r11 r12 r13 r14
 replace HB := Aside0.mk (HB.out.trans (HBz3.mono HB.out.size))
 have Y18 := Aside0.mk y18
 have Y19 := Aside0.mk y19
 have Y20 := Aside0.mk y20
 clear y18 y19 y20 HBz0 HBz1 HBz2 HBz3 K16 HX9
 go_upto_region 15 with fail
 clear u0 u1 u2 u3 u4 uf0 uf1 uf2 uf3 uf4
 obtain ⟨V, hV⟩ : ∃ V, V = (t : Int) - (k : Int) * 1000000 / 1024 := ⟨_, rfl⟩
 have hVA := HX.out
 have hV1 : -100000000 ≤ V ∧ V ≤ 1100585369600 := by omega
 rw [← hV] at hVA ⊢
 clear hV
 have hA2 : -100000100 ≤ A ∧ A ≤ 1100585369600 := by omega
 have b1 : decide (A ≤ V + 1) = true := decide_eq_true (by omega)
 have b2 : decide (V - A ≤ 17) = true := decide_eq_true (by omega)
 have bq : (((seq : Int) + 2) % 65536 == wrap64 (IntKind.u16.wrap ((seq : Int) + 2))) = true := beq_iff_eq.2 (by rw [IntKind.wrap_u16]; unfold wrap64; omega)
 have e0 := blk_cell Y18.out 0
 have e1 := blk_cell Y18.out 1
 have e2 := blk_cell Y18.out 2
 have e3 := blk_cell Y18.out 3
 have e4 := blk_cell Y18.out 4
 simp only [List.getElem?_toArray, List.getElem?_cons_zero, List.getElem?_cons_succ] at e0 e1 e2 e3 e4
 have f0 := blk_cell Y19.out 0
 have f1 := blk_cell Y19.out 1
 have f2 := blk_cell Y19.out 2
 have f3 := blk_cell Y19.out 3
 have f4 := blk_cell Y19.out 4
 simp only [List.getElem?_toArray, List.getElem?_cons_zero, List.getElem?_cons_succ] at f0 f1 f2 f3 f4
 have m0 := blk_cell Y20.out 0
 have m1 := blk_cell Y20.out 1
 have m2 := blk_cell Y20.out 2
 have m3 := blk_cell Y20.out 3
 have m4 := blk_cell Y20.out 4
 simp only [List.getElem?_toArray, List.getElem?_cons_zero, List.getElem?_cons_succ] at m0 m1 m2 m3 m4
 go_wp2_with fail
 refine (wakesF_any wz3).mono ?_
 rintro e w10 ⟨rfl, hb⟩
 replace HB := Aside0.mk (HB.out.trans (hb.mono HB.out.size))
 clear hb
 go_wp2_with fail
 go_ret
 exact ⟨rfl, HB.out⟩
end Go.Proofs.Ytgakmnholegbgaa.B
end
section
namespace Go.Proofs.Ytgakmnholegbgaa.B
open Go.RowKit Go.Proofs.YtgakmnholegbgaaW.PrintWords Go.Proofs.YtgakmnholegbgaaW.PrintLast Go.Proofs.YtgakmnholegbgaaW.PrintMore
set_option linter.unusedVariables false
set_option linter.unusedSimpArgs false
theorem feedTimes_any (a : Int) (ago seq : Nat) (near : Int) (w : World) (ha : I64 a) (h1 : ago ≤ 65535) (h2 : seq ≤ 65535) (hn : -2147483648 ≤ near ∧ near ≤ 2147483647) : Calls Try.prog 5 #[.int .i64 a, .agg #[.int .u16 ago, .int .u16 seq], .int .i32 near] w fun e w' => e = .returned (.bool true) ∧ Below w.heap.size w w' := by
 by_cases hs : Int.tmod a 1099511627776 < 0
 ·exact feedTimes_neg a ago seq near w ha h1 h2 hn hs
 ·exact feedTimes_pos a ago seq near w ha h1 h2 hn hs
end Go.Proofs.Ytgakmnholegbgaa.B
end
section
namespace Go.Proofs.Ytgakmnholegbgaa.B
open Go.RowKit Go.Proofs.YtgakmnholegbgaaW.PrintWords Go.Proofs.YtgakmnholegbgaaW.PrintLast Go.Proofs.YtgakmnholegbgaaW.PrintMore
def I32 (a : Int) : Prop := -2147483648 ≤ a ∧ a ≤ 2147483647
theorem wf_i32 {a : Int} (h : (Lit.int .i32 a).wf = true) : I32 a := by
 simp only [Lit.wf, Bool.and_eq_true, decide_eq_true_eq] at h
 exact ⟨Int.le_trans (show (-2147483648 : Int) ≤ IntKind.i32.min by decide) h.1, Int.le_trans h.2 (show IntKind.i32.max ≤ (2147483647 : Int) by decide)⟩
theorem feedTimes_row (a ago seq near : Int) (w : World) (ha : I64 a) (h1 : U16 ago) (h2 : U16 seq) (hn : I32 near) : Calls Try.prog 5 #[.int .i64 a, .agg #[.int .u16 ago, .int .u16 seq], .int .i32 near] w fun e w' => e = .returned (.bool true) ∧ Below w.heap.size w w' := by
 obtain ⟨m, rfl⟩ : ∃ m : Nat, ago = (m : Int) := ⟨ago.toNat, by have := h1.1; omega⟩
 obtain ⟨n, rfl⟩ : ∃ n : Nat, seq = (n : Int) := ⟨seq.toNat, by have := h2.1; omega⟩
 exact feedTimes_any a m n near w ha (by have := h1.2; omega) (by have := h2.2; omega) hn
end Go.Proofs.Ytgakmnholegbgaa.B
end
section
namespace Go.Proofs.Ytgakmnholegbgaa.B
open Go.Joins Go.ChangeShapes Go.WideShapes Go.RowKit Go.Deep
theorem open_arr2 {H : Type} {enc : TypeId × Value → H} {P : Program} {w : World} {base : Nat} {spare : Nat → Bool} {held : Bool} {q : IntKind} {r : Reach} {b0 : Nat} {t e : TypeId} {v : Value} {d : DataW H} {p : List MemPlace} (hs : P.underlying t = some (.array 2 e)) (he : P.underlying e = some (.int q)) (h1 : P.cellsOf e = 1) (hC : P.cellsOf t = 2)
  (hv : Value.okWide P w r b0 t v) (h : DataW.Trod enc P w base spare held t v d p) : ∃ a b : Int, v = .agg #[.int q a, .int q b] ∧ (Lit.int q a).wf = true ∧ (Lit.int q b).wf = true := by
 simp only [Value.okWide, hs] at hv
 obtain ⟨cs, rfl, h2, _⟩ := hv
 rw [hC] at h2
 obtain ⟨l⟩ := cs
 match l, h2 with
 | [c0, c1], _ =>
  obtain ⟨fuel, hf⟩ := h
  cases fuel with
  | zero => simp [DataW.trod] at hf
  | succ m =>
   rw [DataW.trod_step] at hf
   unfold DataW.trodStep at hf
   simp only [hs, Value.cells] at hf
   rw [if_pos (by rw [hC]; rfl)] at hf
   simp only [Option.map_eq_some_iff] at hf
   obtain ⟨ys, hy, e1⟩ := hf
   rw [h1] at hy
   have hr : List.range 2 = [0, 1] := rfl
   rw [hr] at hy
   simp only [List.mapM_cons, List.mapM_nil, bind, Option.bind_eq_some_iff, pure, Option.some.injEq] at hy
   obtain ⟨x0, hx0, _, ⟨x1, hx1, _⟩, _⟩ := hy
   obtain ⟨a, ea, _, wa⟩ := DataW.trod_int he hx0
   obtain ⟨b, eb, _, wb⟩ := DataW.trod_int he hx1
   simp at ea eb
   subst ea eb
   exact ⟨a, b, rfl, wa, wb⟩
end Go.Proofs.Ytgakmnholegbgaa.B
end
