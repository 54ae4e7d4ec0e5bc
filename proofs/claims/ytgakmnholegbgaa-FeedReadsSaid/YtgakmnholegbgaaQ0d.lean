/- What the law leans on, part 4 of 6: plain laws and walks of this session, and words that a tool of the kit printed for it; what nothing leans on is left out. -/
import Derived.Test.YtgakmnholegbgaaRows
import Derived.Test.YtgakmnholegbgaaProg
import Derived.Below
import Derived.Deep.Draws
import Derived.Deep.AppendLies
import Derived.Maps.AppendAt
import Derived.OwnWalk
import Derived.Laws.BytesArg
import Derived.Laws.MakeOwn
import Derived.Laws.OwnMore
import Derived.Deep.OwnRows
import Derived.Tactics
import Derived.Lib.ConvBytes
import Derived.Laws.Slices
import Derived.WalkKit
import Derived.KernelRfl
import Derived.RowKit3
import Derived.Deep.LoopGhost
import Derived.Deep.QuietTactic
import Derived.BigQuiet
import Derived.WideLaws
import Derived.Deep.DeepCutAuto
import Derived.Deep.CutBlock
import Derived.Deep.RegionHeld3
import Derived.Laws.Rows
import Derived.Lib.AppendStr
import Derived.ArgAppend
import Derived.Laws.IdiomCopy
import Derived.OrdersHeld
import Derived.Laws.BitsLemmas
import Derived.RowKit
import Derived.Laws.StructEq
import Derived.BigRegion
import Derived.WalkMore
import Derived.ScopeJumps
import Derived.Outline
import Derived.Laws.Externs
import Derived.Lib.BitFns
import Derived.Deep.Light
import Derived.Lib.Mul64
import Derived.Lib.Strings
import Derived.Lib.Slices
import Derived.Lib.Small
import Derived.Lib.Walk
import Derived.Laws.Bits64b
import Derived.Lib.UnsafeStr
import Derived.Deep.RegionLaw
import Derived.Deep.RegionWith
import Derived.StillTailTactics
import Derived.Defers
import Derived.Recover
import Derived.Laws.Pointers
import Derived.WalkLawsBesides
import Derived.Laws.DeepStrings4
import Derived.Lib.SmallJoins
import Derived.Deep.Slices
import Derived.Deep.Fields
import Derived.ChangeSame
import Derived.ProofKit
import Derived.OpenShut
import Derived.ShutString
import Derived.ChangeOld
import Derived.SizedLaws
import Derived.Test.YtgakmnholegbgaaQ0c
section
namespace Go.Proofs.Ytgakmnholegbgaa.PFeedReads
open Go.RowKit Go.Proofs.YtgakmnholegbgaaW.PrintWords Go.Proofs.YtgakmnholegbgaaW.PrintLast Go.Proofs.YtgakmnholegbgaaW.PrintMore
attribute [local go_sem] max2_int min2_int max_two min_two max_three min_three max_four min_four
set_option linter.unusedVariables false
set_option linter.unusedSimpArgs false
def IsS139 (w0 W : World) (g : Nat) (f0 : ByteArray) (f1 : Int) (f2 : Bool) : Prop := W.heap[g]? = some (.cells #[.string f0, .int .i64 f1, .bool f2] 139 (0, 0)) ∧ w0.heap.size ≤ g
theorem IsS139.grown {w0 W : World} {g : Nat} {f0 : ByteArray} {f1 : Int} {f2 : Bool} {W1 : World} {row : Option Nat} (h : IsS139 w0 W g f0 f1 f2) (hw : W.grownBy W1 row) (hne : some g ≠ row) : IsS139 w0 W1 g f0 f1 f2 := by
 obtain ⟨hb, hg⟩ := h
 exact ⟨blk_grown hb hw hne, hg⟩
theorem IsS139.kept {w0 W : World} {g : Nat} {f0 : ByteArray} {f1 : Int} {f2 : Bool} {W1 : World} {S : Nat → Prop} (h : IsS139 w0 W g f0 f1 f2) (hk : Kept W W1 S) (hne : ¬ S g) : IsS139 w0 W1 g f0 f1 f2 := by
 obtain ⟨hb, hg⟩ := h
 exact ⟨blk_kept hb hk hne, hg⟩
theorem IsS139.below {w0 W : World} {g : Nat} {f0 : ByteArray} {f1 : Int} {f2 : Bool} {W1 : World} (h : IsS139 w0 W g f0 f1 f2) (hw : Below W.heap.size W W1) : IsS139 w0 W1 g f0 f1 f2 := h.grown (grown_of_below hw none) (by simp)
theorem IsS139.alloc {w0 W : World} {g : Nat} {f0 : ByteArray} {f1 : Int} {f2 : Bool} (h : IsS139 w0 W g f0 f1 f2) (o : Obj) : IsS139 w0 (W.alloc o) g f0 f1 f2 := h.below (below_alloc (Below.refl _ _) o)
theorem IsS139.drewN {w0 W : World} {g : Nat} {f0 : ByteArray} {f1 : Int} {f2 : Bool} (h : IsS139 w0 W g f0 f1 f2) (m : Nat) : IsS139 w0 (W.drewN m) g f0 f1 f2 := h
theorem IsS139.drew {w0 W : World} {g : Nat} {f0 : ByteArray} {f1 : Int} {f2 : Bool} (h : IsS139 w0 W g f0 f1 f2) : IsS139 w0 W.drew g f0 f1 f2 := h
theorem IsS139.at_ {w0 W : World} {g : Nat} {f0 : ByteArray} {f1 : Int} {f2 : Bool} {w' : World} {m : Nat} (hq : W.drewN m = w') (h : IsS139 w0 W g f0 f1 f2) : IsS139 w0 w' g f0 f1 f2 := by subst hq; exact IsS139.drewN h m
theorem IsS139.apart {w0 W : World} {g : Nat} {f0 : ByteArray} {f1 : Int} {f2 : Bool} {α : Type} {d : Kd α} {e : Nat} {base : Nat} {ok : Nat → Prop} {v : Value} {xs : List α} (h : IsS139 w0 W g f0 f1 f2) (ho : d.R e W base ok v xs) (ht : ∀ q, q ∈ e :: d.E → q ≠ 139) : d.R e W base (fun k => ok k ∧ k ≠ g) v xs := by
 obtain ⟨hb, hg⟩ := h
 exact Kd.R_types ho hb ht
theorem IsS139.own_ne {w0 W : World} {g : Nat} {f0 : ByteArray} {f1 : Int} {f2 : Bool} {α : Type} {d : Kd α} {e : Nat} {base : Nat} {ok : Nat → Prop} {v : Value} {xs : List α} (h : IsS139 w0 W g f0 f1 f2) (ho : d.R e W base ok v xs) (ht : e ≠ 139) : some g ≠ v.ownBlock := by
 obtain ⟨hb, hg⟩ := h
 exact Kd.R_ne ho hb ht
theorem IsS139.lt {w0 W : World} {g : Nat} {f0 : ByteArray} {f1 : Int} {f2 : Bool} (h : IsS139 w0 W g f0 f1 f2) : g < W.heap.size := by
 obtain ⟨hb, hg⟩ := h
 exact blk_lt hb
theorem IsS139.ge {w0 W : World} {g : Nat} {f0 : ByteArray} {f1 : Int} {f2 : Bool} (h : IsS139 w0 W g f0 f1 f2) : w0.heap.size ≤ g := by
 obtain ⟨hb, hg⟩ := h
 exact hg
theorem IsS139.ne_blk {w0 W : World} {g : Nat} {f0 : ByteArray} {f1 : Int} {f2 : Bool} {a : Nat} {cs : Array Value} {t : TypeId} {fr : Nat × Nat} (h : IsS139 w0 W g f0 f1 f2) (hb2 : W.heap[a]? = some (.cells cs t fr)) (ht : t ≠ 139) : g ≠ a := by
 obtain ⟨hb, hg⟩ := h
 rintro rfl
 rw [hb] at hb2
 injection hb2 with hb2
 injection hb2 with _ ht2
 exact ht ht2.symm
theorem IsS139.far {w0 W : World} {g : Nat} {f0 : ByteArray} {f1 : Int} {f2 : Bool} {p : Addr} (h : IsS139 w0 W g f0 f1 f2) (hne : g ≠ p.block) (u : Value) : IsS139 w0 (W.setCell p u) g f0 f1 f2 := by
 obtain ⟨hb, hg⟩ := h
 exact ⟨blk_far hb hne u, hg⟩
theorem cellS139_0 {W : World} {g : Nat} {f0 : ByteArray} {f1 : Int} {f2 : Bool} (h : W.heap[g]? = some (.cells #[.string f0, .int .i64 f1, .bool f2] 139 (0, 0))) : W.cell? ⟨g, 0, none⟩ = some (.string f0) := (blk_cell h 0).trans rfl
theorem IsS139.set_0 {w0 W : World} {g : Nat} {f0 : ByteArray} {f1 : Int} {f2 : Bool} (h : IsS139 w0 W g f0 f1 f2) (x : ByteArray) : IsS139 w0 (W.setCell ⟨g, 0, none⟩ (.string x)) g x f1 f2 := by
 obtain ⟨hb, hg⟩ := h
 exact ⟨by simpa using blk_set hb 0 (.string x), hg⟩
theorem cellS139_1 {W : World} {g : Nat} {f0 : ByteArray} {f1 : Int} {f2 : Bool} (h : W.heap[g]? = some (.cells #[.string f0, .int .i64 f1, .bool f2] 139 (0, 0))) : W.cell? ⟨g, 1, none⟩ = some (.int .i64 f1) := (blk_cell h 1).trans rfl
theorem IsS139.set_1 {w0 W : World} {g : Nat} {f0 : ByteArray} {f1 : Int} {f2 : Bool} (h : IsS139 w0 W g f0 f1 f2) (x : Int) : IsS139 w0 (W.setCell ⟨g, 1, none⟩ (.int .i64 x)) g f0 x f2 := by
 obtain ⟨hb, hg⟩ := h
 exact ⟨by simpa using blk_set hb 1 (.int .i64 x), hg⟩
theorem cellS139_2 {W : World} {g : Nat} {f0 : ByteArray} {f1 : Int} {f2 : Bool} (h : W.heap[g]? = some (.cells #[.string f0, .int .i64 f1, .bool f2] 139 (0, 0))) : W.cell? ⟨g, 2, none⟩ = some (.bool f2) := (blk_cell h 2).trans rfl
theorem IsS139.set_2 {w0 W : World} {g : Nat} {f0 : ByteArray} {f1 : Int} {f2 : Bool} (h : IsS139 w0 W g f0 f1 f2) (x : Bool) : IsS139 w0 (W.setCell ⟨g, 2, none⟩ (.bool x)) g f0 f1 x := by
 obtain ⟨hb, hg⟩ := h
 exact ⟨by simpa using blk_set hb 2 (.bool x), hg⟩
def flywheelref06_Read.f (a0 : ByteArray) : Option (ByteArray × Int × Bool) := some (a0, 0, false)
set_option maxHeartbeats 8000000 in
set_option maxRecDepth 100000 in
theorem flywheelref06_Read.calls (a0 : ByteArray) (r1 : ByteArray) (r2 : Int) (r3 : Bool) (w0 w : World) (hB : Below w0.heap.size w0 w) (h : flywheelref06_Read.f a0 = some (r1, r2, r3)) :
  Calls Try.prog 46 #[.string a0] w fun e w' => ∃ g_ : Nat, e = .returned (.pointer (some ⟨g_, 0, none⟩)) ∧ IsS139 w0 w' g_ r1 r2 r3 ∧ Below w0.heap.size w0 w' ∧ Below w.heap.size w w' := by
 have hu139 := Try.underlying139
 have HBW := Aside0.mk (Below.refl w.heap.size w)
 have HW0 := Aside0.mk hB.size
 have HB := Aside0.mk hB
 clear hB
 have H : (some (a0, 0, false)) = some (r1, r2, r3) := h
 clear h
 simp only [Option.some.injEq, Prod.mk.injEq] at H
 obtain ⟨rfl, rfl, rfl⟩ := H
 go_enter Try.func46, Try.ntmps46
 go_wp2_with (first | ((with_reducible refine gate_dst (N := 5) rfl ?_); refine box_event ?hg (N := 5) ?hd (cs := #[.string a0, .int .i64 0, .bool false]) (t := 139) ?hr ?_; (case hd => rfl); (case hg => rfl); (case hr => first | (go_simp; done) | (go_simp; rfl)); intro gb333 hg w2 hbox hb; have n0_ := Aside0.mk (below_step HBW.out hb); have n1_ := Aside0.mk (below_step (by repeat (first | (with_reducible first | exact HB.out | apply below_alloc | apply pw_below_drewN | apply below_drew1) | exact HB.out)) hb); have n2_ := Aside0.mk (hbox); have n3_ := Aside0.mk ((by rw [hg]; exact (below_size (by repeat (first | (with_reducible first | exact HBW.out | apply below_alloc | apply pw_below_drewN | apply below_drew1) | exact HBW.out))) : w.heap.size ≤ gb333)); have n4_ := Aside0.mk ((Nat.le_trans HW0.out (by rw [hg]; exact (below_size (by repeat (first | (with_reducible first | exact HBW.out | apply below_alloc | apply pw_below_drewN | apply below_drew1) | exact HBW.out))) : w.heap.size ≤ gb333) : w0.heap.size ≤ gb333)); clear HBW; clear HB; have HBW := n0_; have HB := n1_; have BK333 := n2_; have GW333 := n3_; have GE333 := n4_; clear n0_ n1_ n2_ n3_ n4_; clear hb hbox hg))
 go_ret
 exact ⟨_, rfl, (show IsS139 w0 _ gb333 a0 0 false from ⟨by (with_reducible repeat (first | refine blk_drewN ?_ _ | refine blk_drew ?_ | refine blk_alloc ?_ _)); exact BK333.out, GE333.out⟩), by repeat (first | (with_reducible first | exact HB.out | apply below_alloc | apply pw_below_drewN | apply below_drew1 | refine below_set ?_ GE333.out) | exact HB.out), by repeat (first | (with_reducible first | exact HBW.out | apply below_alloc | apply pw_below_drewN | apply below_drew1 | refine below_set ?_ GW333.out) | exact HBW.out)⟩
mutual
def flywheelref06_Reader_Get.j0 : Nat → Int → Bool → ByteArray → Int → Bool → Option (Int × ByteArray × Int × Bool)
 | 0, _, _, _, _, _ => none
 | k + 1, x1, x33, x1000, x1001, x1002 => if x33 = true then (some (0, x1000, x1001, true)) else (flywheelref06_Reader_Get.l0 k x1 0 0 x1000 x1001 x1002)
def flywheelref06_Reader_Get.l0 : Nat → Int → Int → Int → ByteArray → Int → Bool → Option (Int × ByteArray × Int × Bool)
 | 0, _, _, _, _, _, _ => none
 | k + 1, x1, x5, x6, x1000, x1001, x1002 => if x6 < x1 then (if 0 ≤ (wrap64 (Int.tdiv x1001 8)) then (if (wrap64 (Int.tdiv x1001 8)) < (x1000.size : Int) then (if 0 ≤ (IntKind.u64.wrap (wrap64 (7 - (Int.tmod x1001 8)))) then (flywheelref06_Reader_Get.l0 k x1 ((((x5 * 2) % 4294967296) + ((Go.bits .and .u8 (shr .u8 (bt x1000 (wrap64 (Int.tdiv x1001 8))) (IntKind.u64.wrap (wrap64 (7 - (Int.tmod x1001 8))))) 1) % 4294967296)) % 4294967296) (wrap64 (x6 + 1)) x1000 (wrap64 (x1001 + 1)) x1002) else (none)) else (none)) else (none)) else (some (x5, x1000, x1001, x1002))
end
def flywheelref06_Reader_Get.f (k : Nat) (s0_0 : ByteArray) (s0_1 : Int) (s0_2 : Bool) (a1 : Int) : Option (Int × ByteArray × Int × Bool) := if s0_2 = true then (flywheelref06_Reader_Get.j0 k a1 true s0_0 s0_1 s0_2) else (if a1 < 0 then (flywheelref06_Reader_Get.j0 k a1 true s0_0 s0_1 s0_2) else (if a1 > 32 then (flywheelref06_Reader_Get.j0 k a1 true s0_0 s0_1 s0_2) else (flywheelref06_Reader_Get.j0 k a1 (decide (a1 > (wrap64 ((wrap64 (8 * (s0_0.size : Int))) - s0_1)))) s0_0 s0_1 s0_2)))
theorem flywheelref06_Reader_Get.mono_l : ∀ k, (∀ y0 y1 y2 y3 y4, LeO (flywheelref06_Reader_Get.j0 k y0 y1 y2 y3 y4) (flywheelref06_Reader_Get.j0 (k + 1) y0 y1 y2 y3 y4)) ∧ (∀ y0 y1 y2 y3 y4 y5, LeO (flywheelref06_Reader_Get.l0 k y0 y1 y2 y3 y4 y5) (flywheelref06_Reader_Get.l0 (k + 1) y0 y1 y2 y3 y4 y5))
 | 0 => ⟨fun _ _ _ _ _ r h => by simp [flywheelref06_Reader_Get.j0] at h, fun _ _ _ _ _ _ r h => by simp [flywheelref06_Reader_Get.l0] at h⟩
 | k + 1 => by
  obtain ⟨ih0, ih1⟩ := flywheelref06_Reader_Get.mono_l k
  refine ⟨?_, ?_⟩
  ·intro y0 y1 y2 y3 y4
   unfold flywheelref06_Reader_Get.j0
   repeat' first
   | (with_reducible exact ih0 _ _ _ _ _)
   | (with_reducible exact ih1 _ _ _ _ _ _)
   | (with_reducible exact LeO.refl _)
   | (with_reducible exact LeO.none _)
   | (with_reducible refine LeO.ite ?_ ?_)
   | (with_reducible refine LeO.bind ?_ (fun _ => ?_))
   | exact ih0 _ _ _ _ _
   | exact ih1 _ _ _ _ _ _
   | exact LeO.none _
   | refine LeO.ite ?_ ?_
   | refine LeO.bind ?_ (fun _ => ?_)
  ·intro y0 y1 y2 y3 y4 y5
   unfold flywheelref06_Reader_Get.l0
   repeat' first
   | (with_reducible exact ih0 _ _ _ _ _)
   | (with_reducible exact ih1 _ _ _ _ _ _)
   | (with_reducible exact LeO.refl _)
   | (with_reducible exact LeO.none _)
   | (with_reducible refine LeO.ite ?_ ?_)
   | (with_reducible refine LeO.bind ?_ (fun _ => ?_))
   | exact ih0 _ _ _ _ _
   | exact ih1 _ _ _ _ _ _
   | exact LeO.none _
   | refine LeO.ite ?_ ?_
   | refine LeO.bind ?_ (fun _ => ?_)
theorem flywheelref06_Reader_Get.mono : ∀ a0 a1 a2 a3 k, LeO (flywheelref06_Reader_Get.f k a0 a1 a2 a3) (flywheelref06_Reader_Get.f (k + 1) a0 a1 a2 a3) := by
 intro a0 a1 a2 a3 k
 obtain ⟨ih0, ih1⟩ := flywheelref06_Reader_Get.mono_l k
 unfold flywheelref06_Reader_Get.f
 repeat' first
   | (with_reducible exact ih0 _ _ _ _ _)
   | (with_reducible exact ih1 _ _ _ _ _ _)
   | (with_reducible exact LeO.refl _)
   | (with_reducible exact LeO.none _)
   | (with_reducible refine LeO.ite ?_ ?_)
   | (with_reducible refine LeO.bind ?_ (fun _ => ?_))
   | exact ih0 _ _ _ _ _
   | exact ih1 _ _ _ _ _ _
   | exact LeO.none _
   | refine LeO.ite ?_ ?_
   | refine LeO.bind ?_ (fun _ => ?_)
set_option maxHeartbeats 8000000 in
set_option maxRecDepth 100000 in
theorem flywheelref06_Reader_Get.calls (k : Nat) (g : Nat) (s0_0 : ByteArray) (s0_1 : Int) (s0_2 : Bool) (a1 : Int) (r1 : Int) (r2 : ByteArray) (r3 : Int) (r4 : Bool) (w0 w : World) (hI : IsS139 w0 w g s0_0 s0_1 s0_2) (hB : Below w0.heap.size w0 w) (h : flywheelref06_Reader_Get.f k s0_0 s0_1 s0_2 a1 = some (r1, r2, r3, r4)) :
  Calls Try.prog 47 #[.pointer (some ⟨g, 0, none⟩), .int .i64 a1] w fun e w' => e = .returned (.int .u32 r1) ∧ IsS139 w0 w' g r2 r3 r4 ∧ Below w0.heap.size w0 w' ∧ KeepBut w w' g none := by
 have HI0 := Aside0.mk hI
 have HK := Aside0.mk (KeepBut.refl w g none)
 have HL := Aside0.mk hB.size
 clear hI
 have HW0 := Aside0.mk hB.size
 have HB := Aside0.mk hB
 clear hB
 have H : (if s0_2 = true then (flywheelref06_Reader_Get.j0 k a1 true s0_0 s0_1 s0_2) else (if a1 < 0 then (flywheelref06_Reader_Get.j0 k a1 true s0_0 s0_1 s0_2) else (if a1 > 32 then (flywheelref06_Reader_Get.j0 k a1 true s0_0 s0_1 s0_2) else (flywheelref06_Reader_Get.j0 k a1 (decide (a1 > (wrap64 ((wrap64 (8 * (s0_0.size : Int))) - s0_1)))) s0_0 s0_1 s0_2)))) = some (r1, r2, r3, r4) := h
 clear h
 have HC3 := Aside0.mk H
 clear H
 go_enter Try.func47, Try.ntmps47
 go_upto_region 1 with (fail)
 repeat (go_quiet (fail); go_upto_region 1 with (fail))
 go_cut [33] (fun v33 wc => ∃ (kq : Nat) (x33_2 : Bool), v33 = .bool x33_2 ∧ Aside0 (flywheelref06_Reader_Get.j0 kq a1 x33_2 s0_0 s0_1 s0_2 = some (r1, r2, r3, r4)) ∧ Aside0 (kq ≤ k) ∧ Aside0 (IsS139 w0 wc g s0_0 s0_1 s0_2) ∧ Aside0 (KeepBut w wc g none) ∧ Aside0 (Below w0.heap.size w0 wc))
 case first =>
  have H := HC3.out
  clear HC3
  by_cases c4 : s0_2 = true
  ·subst c4
   have H1 : (flywheelref06_Reader_Get.j0 k a1 true s0_0 s0_1 true) = some (r1, r2, r3, r4) := by rw [if_pos rfl] at H; exact H
   clear H
   have H := H1
   clear H1
   have H' := Aside0.mk H
   clear H
   obtain ⟨HGz5, hgz5⟩ := HI0.out
   have hcz5_0 := cellS139_0 HGz5
   have hcz5_1 := cellS139_1 HGz5
   have hcz5_2 := cellS139_2 HGz5
   have hfz5_0 := blk_frozen HGz5 0
   have hfz5_1 := blk_frozen HGz5 1
   have hfz5_2 := blk_frozen HGz5 2
   clear HGz5 hgz5
   go_wp2
   repeat (go_quiet (fail); try go_wp2)
   go_meet
   case rel => exact ⟨_, (true), (by first | rfl | (simp; done) | (simp [*]; done)), H', ⟨by first | omega | exact Nat.le_refl _⟩, ⟨by repeat (first | (with_reducible first | exact HI0.out | apply IsS139.alloc | apply IsS139.drewN | apply IsS139.drew | apply IsS139.set_0 | apply IsS139.set_1 | apply IsS139.set_2) | exact HI0.out)⟩, ⟨by repeat (first | (with_reducible first | exact HK.out | apply KeepBut.set_ | apply keep_drewN | apply keep_drew | apply keep_alloc) | exact HK.out)⟩, ⟨by repeat (first | (with_reducible first | exact HB.out | apply below_alloc | apply pw_below_drewN | apply below_drew1 | refine below_set ?_ (IsS139.ge HI0.out)) | exact HB.out)⟩⟩
  ·replace c4 := Bool.eq_false_iff.mpr c4
   subst c4
   have H1 : (if a1 < 0 then (flywheelref06_Reader_Get.j0 k a1 true s0_0 s0_1 false) else (if a1 > 32 then (flywheelref06_Reader_Get.j0 k a1 true s0_0 s0_1 false) else (flywheelref06_Reader_Get.j0 k a1 (decide (a1 > (wrap64 ((wrap64 (8 * (s0_0.size : Int))) - s0_1)))) s0_0 s0_1 false))) = some (r1, r2, r3, r4) := by rw [if_neg (show ¬ (false = true) by decide)] at H; exact H
   clear H
   have H := H1
   clear H1
   by_cases c6 : a1 < 0
   ·rw [if_pos c6] at H
    have c6b0 : decide (a1 < 0) = true := decide_eq_true c6
    clear c6
    (first | rw [c6b0] | (simp only [i64_w, i32_w]; rw [c6b0]) | skip)
    have H' := Aside0.mk H
    clear H
    obtain ⟨HGz7, hgz7⟩ := HI0.out
    have hcz7_0 := cellS139_0 HGz7
    have hcz7_1 := cellS139_1 HGz7
    have hcz7_2 := cellS139_2 HGz7
    have hfz7_0 := blk_frozen HGz7 0
    have hfz7_1 := blk_frozen HGz7 1
    have hfz7_2 := blk_frozen HGz7 2
    clear HGz7 hgz7
    go_wp2
    repeat (go_quiet (fail); try go_wp2)
    go_meet
    case rel => exact ⟨_, (true), (by first | rfl | (simp; done) | (simp [*]; done)), H', ⟨by first | omega | exact Nat.le_refl _⟩, ⟨by repeat (first | (with_reducible first | exact HI0.out | apply IsS139.alloc | apply IsS139.drewN | apply IsS139.drew | apply IsS139.set_0 | apply IsS139.set_1 | apply IsS139.set_2) | exact HI0.out)⟩, ⟨by repeat (first | (with_reducible first | exact HK.out | apply KeepBut.set_ | apply keep_drewN | apply keep_drew | apply keep_alloc) | exact HK.out)⟩, ⟨by repeat (first | (with_reducible first | exact HB.out | apply below_alloc | apply pw_below_drewN | apply below_drew1 | refine below_set ?_ (IsS139.ge HI0.out)) | exact HB.out)⟩⟩
   ·rw [if_neg c6] at H
    have c6b0 : decide (a1 < 0) = false := decide_eq_false c6
    clear c6
    (first | rw [c6b0] | (simp only [i64_w, i32_w]; rw [c6b0]) | skip)
    by_cases c8 : a1 > 32
    ·rw [if_pos c8] at H
     have c8b0 : decide (32 < a1) = true := decide_eq_true c8
     clear c8
     have H' := Aside0.mk H
     clear H
     obtain ⟨HGz9, hgz9⟩ := HI0.out
     have hcz9_0 := cellS139_0 HGz9
     have hcz9_1 := cellS139_1 HGz9
     have hcz9_2 := cellS139_2 HGz9
     have hfz9_0 := blk_frozen HGz9 0
     have hfz9_1 := blk_frozen HGz9 1
     have hfz9_2 := blk_frozen HGz9 2
     clear HGz9 hgz9
     go_wp2
     repeat (go_quiet (fail); try go_wp2)
     go_meet
     case rel => exact ⟨_, (true), (by first | rfl | (simp; done) | (simp [*]; done)), H', ⟨by first | omega | exact Nat.le_refl _⟩, ⟨by repeat (first | (with_reducible first | exact HI0.out | apply IsS139.alloc | apply IsS139.drewN | apply IsS139.drew | apply IsS139.set_0 | apply IsS139.set_1 | apply IsS139.set_2) | exact HI0.out)⟩, ⟨by repeat (first | (with_reducible first | exact HK.out | apply KeepBut.set_ | apply keep_drewN | apply keep_drew | apply keep_alloc) | exact HK.out)⟩, ⟨by repeat (first | (with_reducible first | exact HB.out | apply below_alloc | apply pw_below_drewN | apply below_drew1 | refine below_set ?_ (IsS139.ge HI0.out)) | exact HB.out)⟩⟩
    ·rw [if_neg c8] at H
     have c8b0 : decide (32 < a1) = false := decide_eq_false c8
     clear c8
     have H' := Aside0.mk H
     clear H
     obtain ⟨HGz10, hgz10⟩ := HI0.out
     have hcz10_0 := cellS139_0 HGz10
     have hcz10_1 := cellS139_1 HGz10
     have hcz10_2 := cellS139_2 HGz10
     have hfz10_0 := blk_frozen HGz10 0
     have hfz10_1 := blk_frozen HGz10 1
     have hfz10_2 := blk_frozen HGz10 2
     clear HGz10 hgz10
     go_wp2
     repeat (go_quiet (fail); try go_wp2)
     go_meet
     case rel => exact ⟨_, (decide (a1 > (wrap64 ((wrap64 (8 * (s0_0.size : Int))) - s0_1)))), (by first | rfl | (simp; done) | (simp [*]; done)), H', ⟨by first | omega | exact Nat.le_refl _⟩, ⟨by repeat (first | (with_reducible first | exact HI0.out | apply IsS139.alloc | apply IsS139.drewN | apply IsS139.drew | apply IsS139.set_0 | apply IsS139.set_1 | apply IsS139.set_2) | exact HI0.out)⟩, ⟨by repeat (first | (with_reducible first | exact HK.out | apply KeepBut.set_ | apply keep_drewN | apply keep_drew | apply keep_alloc) | exact HK.out)⟩, ⟨by repeat (first | (with_reducible first | exact HB.out | apply below_alloc | apply pw_below_drewN | apply below_drew1 | refine below_set ?_ (IsS139.ge HI0.out)) | exact HB.out)⟩⟩
 case rest =>
  clear HC3
  try clear p2
  try clear c4
  try clear c6
  try clear c6b0
  try clear p6
  try clear c8
  try clear c8b0
  try clear hcz10_0
  try clear hcz10_1
  try clear hcz10_2
  try clear hcz5_0
  try clear hcz5_1
  try clear hcz5_2
  try clear hcz7_0
  try clear hcz7_1
  try clear hcz7_2
  try clear hcz9_0
  try clear hcz9_1
  try clear hcz9_2
  try clear hfz10_0
  try clear hfz10_1
  try clear hfz10_2
  try clear hfz5_0
  try clear hfz5_1
  try clear hfz5_2
  try clear hfz7_0
  try clear hfz7_1
  try clear hfz7_2
  try clear hfz9_0
  try clear hfz9_1
  try clear hfz9_2
  obtain ⟨kq, x33_2, rfl, HA, HJ2, HI0, HK, HB⟩ := hcut
  cases kq with
  | zero => exact absurd HA.out (by simp [flywheelref06_Reader_Get.j0])
  | succ kj2 =>
   have H := HA.out
   clear HA
   simp only [flywheelref06_Reader_Get.j0] at H
   by_cases c11 : x33_2 = true
   ·subst c11
    have H1 : (some (0, s0_0, s0_1, true)) = some (r1, r2, r3, r4) := by rw [if_pos rfl] at H; exact H
    clear H
    have H := H1
    clear H1
    simp only [Option.some.injEq, Prod.mk.injEq] at H
    obtain ⟨rfl, rfl, rfl, rfl⟩ := H
    obtain ⟨HGz12, hgz12⟩ := HI0.out
    have hcz12_0 := cellS139_0 HGz12
    have hcz12_1 := cellS139_1 HGz12
    have hcz12_2 := cellS139_2 HGz12
    have hfz12_0 := blk_frozen HGz12 0
    have hfz12_1 := blk_frozen HGz12 1
    have hfz12_2 := blk_frozen HGz12 2
    clear HGz12 hgz12
    go_wp2
    repeat (go_quiet (fail); try go_wp2)
    go_ret
    exact ⟨by first | rfl | (simp [errW_none, errW_some] <;> rfl) | (simp [*, errW_none, errW_some] <;> rfl), by repeat (first | (with_reducible first | exact HI0.out | apply IsS139.alloc | apply IsS139.drewN | apply IsS139.drew | apply IsS139.set_0 | apply IsS139.set_1 | apply IsS139.set_2) | exact HI0.out), by repeat (first | (with_reducible first | exact HB.out | apply below_alloc | apply pw_below_drewN | apply below_drew1 | refine below_set ?_ (IsS139.ge HI0.out)) | exact HB.out), by repeat (first | (with_reducible first | exact HK.out | apply KeepBut.set_ | apply keep_drewN | apply keep_drew | apply keep_alloc) | exact HK.out)⟩
   ·replace c11 := Bool.eq_false_iff.mpr c11
    subst c11
    have H1 : (flywheelref06_Reader_Get.l0 kj2 a1 0 0 s0_0 s0_1 s0_2) = some (r1, r2, r3, r4) := by rw [if_neg (show ¬ (false = true) by decide)] at H; exact H
    clear H
    have H := H1
    clear H1
    have H' := Aside0.mk H
    clear H
    go_wp2
    repeat (go_quiet (fail); try go_wp2)
    go_loopg [5, 6] kj2 (fun kq v5 v6 w' => ∃ (x5_2 : Int) (x6_2 : Int) (x1001_2 : Int), v5 = .int .u32 x5_2 ∧ v6 = .int .i64 x6_2 ∧ Aside0 (flywheelref06_Reader_Get.l0 kq a1 x5_2 x6_2 s0_0 x1001_2 s0_2 = some (r1, r2, r3, r4)) ∧ Aside0 (kq ≤ kj2) ∧ Aside0 (IsS139 w0 w' g s0_0 x1001_2 s0_2) ∧ Aside0 (KeepBut w w' g none) ∧ Aside0 (Below w0.heap.size w0 w'))
    case atStart => exact ⟨(0), (0), (s0_1), (by first | rfl | (simp; done) | (simp [*]; done)), (by first | rfl | (simp; done) | (simp [*]; done)), H', ⟨Nat.le_refl _⟩, ⟨by repeat (first | (with_reducible first | exact HI0.out | apply IsS139.alloc | apply IsS139.drewN | apply IsS139.drew | apply IsS139.set_0 | apply IsS139.set_1 | apply IsS139.set_2) | exact HI0.out)⟩, ⟨by repeat (first | (with_reducible first | exact HK.out | apply KeepBut.set_ | apply keep_drewN | apply keep_drew | apply keep_alloc) | exact HK.out)⟩, ⟨by repeat (first | (with_reducible first | exact HB.out | apply below_alloc | apply pw_below_drewN | apply below_drew1 | refine below_set ?_ (IsS139.ge HI0.out)) | exact HB.out)⟩⟩
    case round =>
     clear H'
     try clear c1
     try clear p2
     try clear c4
     try clear c6
     try clear c6b0
     try clear p6
     try clear c8
     try clear c8b0
     try clear c11
     try clear hcz10_0
     try clear hcz10_1
     try clear hcz10_2
     try clear hcz12_0
     try clear hcz12_1
     try clear hcz12_2
     try clear hcz5_0
     try clear hcz5_1
     try clear hcz5_2
     try clear hcz7_0
     try clear hcz7_1
     try clear hcz7_2
     try clear hcz9_0
     try clear hcz9_1
     try clear hcz9_2
     try clear hfz10_0
     try clear hfz10_1
     try clear hfz10_2
     try clear hfz12_0
     try clear hfz12_1
     try clear hfz12_2
     try clear hfz5_0
     try clear hfz5_1
     try clear hfz5_2
     try clear hfz7_0
     try clear hfz7_1
     try clear hfz7_2
     try clear hfz9_0
     try clear hfz9_1
     try clear hfz9_2
     try clear p2
     try clear p6
     obtain ⟨x5_2, x6_2, x1001_2, rfl, rfl, HA, HK2, HI0, HK, HB⟩ := hrel
     cases gk with
     | zero => exact absurd HA.out (by simp [flywheelref06_Reader_Get.l0])
     | succ k2 =>
      have H := HA.out
      clear HA
      simp only [flywheelref06_Reader_Get.l0] at H
      by_cases c13 : x6_2 < a1
      ·rw [if_pos c13] at H
       have c13b0 : decide (x6_2 < a1) = true := decide_eq_true c13
       clear c13
       obtain ⟨ji14, hji14⟩ : ∃ j_ : Int, (wrap64 (Int.tdiv x1001_2 8)) = j_ := ⟨_, rfl⟩
       replace H : (if 0 ≤ (ji14) then (if (ji14) < (s0_0.size : Int) then (if 0 ≤ (IntKind.u64.wrap (wrap64 (7 - (Int.tmod x1001_2 8)))) then (flywheelref06_Reader_Get.l0 k2 a1 ((((x5_2 * 2) % 4294967296) + ((Go.bits .and .u8 (shr .u8 (bt s0_0 (ji14)) (IntKind.u64.wrap (wrap64 (7 - (Int.tmod x1001_2 8))))) 1) % 4294967296)) % 4294967296) (wrap64 (x6_2 + 1)) s0_0 (wrap64 (x1001_2 + 1)) s0_2) else (none)) else (none)) else (none)) = some (r1, r2, r3, r4) := by first | (rw [hji14] at H; exact H) | (simp only [hji14] at H ⊢; exact H)
       have hji14w : (IntKind.i64.wrap (Int.tdiv x1001_2 8)) = ji14 := (i64_w _).trans hji14
       by_cases c15 : 0 ≤ (ji14)
       ·rw [if_pos c15] at H
        have c15b0 : decide (0 ≤ (ji14)) = true := decide_eq_true c15
        clear c15
        by_cases c16 : (ji14) < (s0_0.size : Int)
        ·rw [if_pos c16] at H
         have c16b0 : decide ((ji14) < (s0_0.size : Int)) = true := decide_eq_true c16
         clear c16
         obtain ⟨ji18, hji18⟩ : ∃ j_ : Int, (IntKind.u64.wrap (wrap64 (7 - (Int.tmod x1001_2 8)))) = j_ := ⟨_, rfl⟩
         replace H : (if 0 ≤ (ji18) then (flywheelref06_Reader_Get.l0 k2 a1 ((((x5_2 * 2) % 4294967296) + ((Go.bits .and .u8 (shr .u8 (bt s0_0 (ji14)) (ji18)) 1) % 4294967296)) % 4294967296) (wrap64 (x6_2 + 1)) s0_0 (wrap64 (x1001_2 + 1)) s0_2) else (none)) = some (r1, r2, r3, r4) := by first | (rw [hji18] at H; exact H) | (simp only [hji18] at H ⊢; exact H)
         by_cases c19 : 0 ≤ (ji18)
         ·rw [if_pos c19] at H
          have c19b0 := eq_true c19
          have c19b1 : decide (0 ≤ (ji18)) = true := decide_eq_true c19
          clear c19
          obtain ⟨ji20, hji20⟩ : ∃ j_ : Int, (shr .u8 (bt s0_0 (ji14)) (ji18)) = j_ := ⟨_, rfl⟩
          replace H : (flywheelref06_Reader_Get.l0 k2 a1 ((((x5_2 * 2) % 4294967296) + ((Go.bits .and .u8 (ji20) 1) % 4294967296)) % 4294967296) (wrap64 (x6_2 + 1)) s0_0 (wrap64 (x1001_2 + 1)) s0_2) = some (r1, r2, r3, r4) := by first | (rw [hji20] at H; exact H) | (simp only [hji20] at H ⊢; exact H)
          have hji20_ : ((bt s0_0 (ji14)) / 2 ^ min (ji18).toNat 8) = ji20 := hji20
          have hji20z : (ji18) ≤ 8 → ((bt s0_0 (ji14)) / 2 ^ (ji18).toNat) = ji20 := shr_small hji20
          have H' := Aside0.mk H
          clear H
          obtain ⟨HGz21, hgz21⟩ := HI0.out
          have hcz21_0 := cellS139_0 HGz21
          have hcz21_1 := cellS139_1 HGz21
          have hcz21_2 := cellS139_2 HGz21
          have hfz21_0 := blk_frozen HGz21 0
          have hfz21_1 := blk_frozen HGz21 1
          have hfz21_2 := blk_frozen HGz21 2
          clear HGz21 hgz21
          have p17 : 0 ≤ ((ji14) : Int) := of_decide_eq_true (by first | (with_reducible assumption) | assumption)
          have q17 : (ji14) < (s0_0.size : Int) := of_decide_eq_true (by first | (with_reducible assumption) | assumption)
          have hx17 := bt_at s0_0 (ji14)
          replace p17 := eq_true p17
          replace q17 := eq_true q17
          go_wp2
          repeat (go_quiet (fail); try go_wp2)
          go_roundg k2
          case measure => have := HJ2.out; have := HK2.out; omega
          case rel => exact ⟨((((x5_2 * 2) % 4294967296) + ((Go.bits .and .u8 (ji20) 1) % 4294967296)) % 4294967296), (wrap64 (x6_2 + 1)), (wrap64 (x1001_2 + 1)), (by first | rfl | (simp; done) | (simp only [← hji20] <;> (first | rfl | simp)) | (simp [*]; done)), (by first | rfl | (simp; done) | (simp [*]; done)), H', ⟨by have := HJ2.out; have := HK2.out; omega⟩, ⟨by repeat (first | (with_reducible first | exact HI0.out | apply IsS139.alloc | apply IsS139.drewN | apply IsS139.drew | apply IsS139.set_0 | apply IsS139.set_1 | apply IsS139.set_2) | exact HI0.out)⟩, ⟨by repeat (first | (with_reducible first | exact HK.out | apply KeepBut.set_ | apply keep_drewN | apply keep_drew | apply keep_alloc) | exact HK.out)⟩, ⟨by repeat (first | (with_reducible first | exact HB.out | apply below_alloc | apply pw_below_drewN | apply below_drew1 | refine below_set ?_ (IsS139.ge HI0.out)) | exact HB.out)⟩⟩
         ·rw [if_neg c19] at H
          exact absurd H (by simp)
        ·rw [if_neg c16] at H
         exact absurd H (by simp)
       ·rw [if_neg c15] at H
        exact absurd H (by simp)
      ·rw [if_neg c13] at H
       have c13b0 : decide (x6_2 < a1) = false := decide_eq_false c13
       clear c13
       simp only [Option.some.injEq, Prod.mk.injEq] at H
       obtain ⟨rfl, rfl, rfl, rfl⟩ := H
       go_wp2
       repeat (go_quiet (fail); try go_wp2)
       go_ret
       exact ⟨by first | rfl | (simp [errW_none, errW_some] <;> rfl) | (simp [*, errW_none, errW_some] <;> rfl), by repeat (first | (with_reducible first | exact HI0.out | apply IsS139.alloc | apply IsS139.drewN | apply IsS139.drew | apply IsS139.set_0 | apply IsS139.set_1 | apply IsS139.set_2) | exact HI0.out), by repeat (first | (with_reducible first | exact HB.out | apply below_alloc | apply pw_below_drewN | apply below_drew1 | refine below_set ?_ (IsS139.ge HI0.out)) | exact HB.out), by repeat (first | (with_reducible first | exact HK.out | apply KeepBut.set_ | apply keep_drewN | apply keep_drew | apply keep_alloc) | exact HK.out)⟩
def flywheelref06_Reader_Left.f (s0_0 : ByteArray) (s0_1 : Int) (s0_2 : Bool) : Option (Int × ByteArray × Int × Bool) := if s0_2 = true then (some (0, s0_0, s0_1, s0_2)) else (some (wrap64 ((wrap64 (8 * (s0_0.size : Int))) - s0_1), s0_0, s0_1, s0_2))
set_option maxHeartbeats 8000000 in
set_option maxRecDepth 100000 in
theorem flywheelref06_Reader_Left.calls (g : Nat) (s0_0 : ByteArray) (s0_1 : Int) (s0_2 : Bool) (r1 : Int) (r2 : ByteArray) (r3 : Int) (r4 : Bool) (w0 w : World) (hI : IsS139 w0 w g s0_0 s0_1 s0_2) (hB : Below w0.heap.size w0 w) (h : flywheelref06_Reader_Left.f s0_0 s0_1 s0_2 = some (r1, r2, r3, r4)) :
  Calls Try.prog 48 #[.pointer (some ⟨g, 0, none⟩)] w fun e w' => e = .returned (.int .i64 r1) ∧ IsS139 w0 w' g r2 r3 r4 ∧ Below w0.heap.size w0 w' ∧ KeepBut w w' g none := by
 have HI0 := Aside0.mk hI
 have HK := Aside0.mk (KeepBut.refl w g none)
 have HL := Aside0.mk hB.size
 clear hI
 have HW0 := Aside0.mk hB.size
 have HB := Aside0.mk hB
 clear hB
 have H : (if s0_2 = true then (some (0, s0_0, s0_1, s0_2)) else (some (wrap64 ((wrap64 (8 * (s0_0.size : Int))) - s0_1), s0_0, s0_1, s0_2))) = some (r1, r2, r3, r4) := h
 clear h
 by_cases c2 : s0_2 = true
 ·subst c2
  have H1 : (some (0, s0_0, s0_1, true)) = some (r1, r2, r3, r4) := by rw [if_pos rfl] at H; exact H
  clear H
  have H := H1
  clear H1
  simp only [Option.some.injEq, Prod.mk.injEq] at H
  obtain ⟨rfl, rfl, rfl, rfl⟩ := H
  obtain ⟨HGz3, hgz3⟩ := HI0.out
  have hcz3_0 := cellS139_0 HGz3
  have hcz3_1 := cellS139_1 HGz3
  have hcz3_2 := cellS139_2 HGz3
  have hfz3_0 := blk_frozen HGz3 0
  have hfz3_1 := blk_frozen HGz3 1
  have hfz3_2 := blk_frozen HGz3 2
  clear HGz3 hgz3
  go_enter Try.func48, Try.ntmps48
  go_wp2
  repeat (go_quiet (fail); try go_wp2)
  go_ret
  exact ⟨by first | rfl | (simp [errW_none, errW_some] <;> rfl) | (simp [*, errW_none, errW_some] <;> rfl), by repeat (first | (with_reducible first | exact HI0.out | apply IsS139.alloc | apply IsS139.drewN | apply IsS139.drew | apply IsS139.set_0 | apply IsS139.set_1 | apply IsS139.set_2) | exact HI0.out), by repeat (first | (with_reducible first | exact HB.out | apply below_alloc | apply pw_below_drewN | apply below_drew1 | refine below_set ?_ (IsS139.ge HI0.out)) | exact HB.out), by repeat (first | (with_reducible first | exact HK.out | apply KeepBut.set_ | apply keep_drewN | apply keep_drew | apply keep_alloc) | exact HK.out)⟩
 ·replace c2 := Bool.eq_false_iff.mpr c2
  subst c2
  have H1 : (some (wrap64 ((wrap64 (8 * (s0_0.size : Int))) - s0_1), s0_0, s0_1, false)) = some (r1, r2, r3, r4) := by rw [if_neg (show ¬ (false = true) by decide)] at H; exact H
  clear H
  have H := H1
  clear H1
  simp only [Option.some.injEq, Prod.mk.injEq] at H
  obtain ⟨rfl, rfl, rfl, rfl⟩ := H
  obtain ⟨HGz4, hgz4⟩ := HI0.out
  have hcz4_0 := cellS139_0 HGz4
  have hcz4_1 := cellS139_1 HGz4
  have hcz4_2 := cellS139_2 HGz4
  have hfz4_0 := blk_frozen HGz4 0
  have hfz4_1 := blk_frozen HGz4 1
  have hfz4_2 := blk_frozen HGz4 2
  clear HGz4 hgz4
  go_enter Try.func48, Try.ntmps48
  go_wp2
  repeat (go_quiet (fail); try go_wp2)
  go_ret
  exact ⟨by first | rfl | (simp [errW_none, errW_some] <;> rfl) | (simp [*, errW_none, errW_some] <;> rfl), by repeat (first | (with_reducible first | exact HI0.out | apply IsS139.alloc | apply IsS139.drewN | apply IsS139.drew | apply IsS139.set_0 | apply IsS139.set_1 | apply IsS139.set_2) | exact HI0.out), by repeat (first | (with_reducible first | exact HB.out | apply below_alloc | apply pw_below_drewN | apply below_drew1 | refine below_set ?_ (IsS139.ge HI0.out)) | exact HB.out), by repeat (first | (with_reducible first | exact HK.out | apply KeepBut.set_ | apply keep_drewN | apply keep_drew | apply keep_alloc) | exact HK.out)⟩
def flywheelref05_mod.f (a0 : Int) (a1 : Int) : Option (Int) := if a1 = 0 then (none) else (some (Int.tmod (wrap64 ((Int.tmod a0 a1) + a1)) a1))
set_option maxHeartbeats 8000000 in
set_option maxRecDepth 100000 in
theorem flywheelref05_mod.calls (a0 : Int) (a1 : Int) (r : Int) (w : World) (h : flywheelref05_mod.f a0 a1 = some r) :
  Calls Try.prog 70 #[.int .i64 a0, .int .i64 a1] w fun e w' => e = .returned (.int .i64 r) ∧ Drawn0 w w' := by
 have H : (if a1 = 0 then (none) else (some (Int.tmod (wrap64 ((Int.tmod a0 a1) + a1)) a1))) = some r := h
 clear h
 by_cases c3 : a1 = 0
 ·rw [if_pos c3] at H
  exact absurd H (by simp)
 ·rw [if_neg c3] at H
  have c3b0 : (a1 == 0) = false := beq_eq_false_iff_ne.mpr c3
  have c3b1 : (a1 != 0) = true := bne_iff_ne.mpr c3
  obtain rfl := Option.some.inj H
  go_enter Try.func70, Try.ntmps70
  go_wp2
  go_ret
  exact ⟨by first | rfl | (simp; done) | (simp [*]; done), by repeat (first | exact Drawn0.refl _ | apply Drawn0.step)⟩
def flywheelref05_Cut_p.f (a0 : Int) (a1 : Int) : Option (Int) := if a1 < 1 then (some 0) else (if a1 > 32 then (some 0) else (if 0 ≤ (IntKind.u64.wrap (a1)) then ((flywheelref05_mod.f a0 (shl .i64 1 (IntKind.u64.wrap (a1)))).bind fun t425 => (some t425)) else (none)))
set_option maxHeartbeats 8000000 in
set_option maxRecDepth 100000 in
theorem flywheelref05_Cut_p.calls (a0 : Int) (a1 : Int) (r : Int) (w : World) (h : flywheelref05_Cut_p.f a0 a1 = some r) :
  Calls Try.prog 50 #[.int .i64 a0, .int .i64 a1] w fun e w' => e = .returned (.int .i64 r) ∧ Drawn0 w w' := by
 have H : (if a1 < 1 then (some 0) else (if a1 > 32 then (some 0) else (if 0 ≤ (IntKind.u64.wrap (a1)) then ((flywheelref05_mod.f a0 (shl .i64 1 (IntKind.u64.wrap (a1)))).bind fun t425 => (some t425)) else (none)))) = some r := h
 clear h
 by_cases c3 : a1 < 1
 ·rw [if_pos c3] at H
  have c3b0 : decide (a1 < 1) = true := decide_eq_true c3
  clear c3
  obtain rfl := Option.some.inj H
  go_enter Try.func50, Try.ntmps50
  go_wp2
  go_ret
  exact ⟨by first | rfl | (simp; done) | (simp [*]; done), by repeat (first | exact Drawn0.refl _ | apply Drawn0.step)⟩
 ·rw [if_neg c3] at H
  have c3b0 : decide (a1 < 1) = false := decide_eq_false c3
  clear c3
  by_cases c4 : a1 > 32
  ·rw [if_pos c4] at H
   have c4b0 : decide (32 < a1) = true := decide_eq_true c4
   clear c4
   obtain rfl := Option.some.inj H
   go_enter Try.func50, Try.ntmps50
   go_wp2
   go_ret
   exact ⟨by first | rfl | (simp; done) | (simp [*]; done), by repeat (first | exact Drawn0.refl _ | apply Drawn0.step)⟩
  ·rw [if_neg c4] at H
   have c4b0 : decide (32 < a1) = false := decide_eq_false c4
   clear c4
   obtain ⟨ji5, hji5⟩ : ∃ j_ : Int, (IntKind.u64.wrap (a1)) = j_ := ⟨_, rfl⟩
   replace H : (if 0 ≤ (ji5) then ((flywheelref05_mod.f a0 (shl .i64 1 (ji5))).bind fun t425 => (some t425)) else (none)) = some r := by first | (rw [hji5] at H; exact H) | (simp only [hji5] at H ⊢; exact H)
   by_cases c6 : 0 ≤ (ji5)
   ·rw [if_pos c6] at H
    have c6b0 := eq_true c6
    have c6b1 : decide (0 ≤ (ji5)) = true := decide_eq_true c6
    clear c6
    obtain ⟨ji7, hji7⟩ : ∃ j_ : Int, (shl .i64 1 (ji5)) = j_ := ⟨_, rfl⟩
    replace H : ((flywheelref05_mod.f a0 (ji7)).bind fun t425 => (some t425)) = some r := by first | (rw [hji7] at H; exact H) | (simp only [hji7] at H ⊢; exact H)
    have hji7_ : (IntKind.i64.wrap (1 * 2 ^ min (ji5).toNat 64)) = ji7 := hji7
    have hji7z : (ji5) ≤ 64 → (IntKind.i64.wrap (1 * 2 ^ (ji5).toNat)) = ji7 := shl_small hji7
    have hji7u : (IntKind.i64.wrap (2 ^ min (ji5).toNat 64)) = ji7 := by have h_ := hji7_; rw [Int.one_mul] at h_; exact h_
    have hji7v : (ji5) ≤ 64 → (IntKind.i64.wrap (2 ^ (ji5).toNat)) = ji7 := fun hle_ => by have h_ := hji7z hle_; rw [Int.one_mul] at h_; exact h_
    have hji7y : (wrap64 (1 * 2 ^ min (ji5).toNat 64)) = ji7 := (i64_w _).symm.trans hji7_
    have hji7x : (ji5) ≤ 64 → (wrap64 (1 * 2 ^ (ji5).toNat)) = ji7 := fun h_ => (i64_w _).symm.trans (hji7z h_)
    replace H := Option.bind_eq_some_iff.mp H
    obtain ⟨t425, A80, H⟩ := H
    replace H : (some t425) = some r := H
    have A8 := Aside0.mk A80
    clear A80
    obtain rfl := Option.some.inj H
    go_enter Try.func50, Try.ntmps50
    go_wp2_with (first | ((with_reducible refine gate_callee (f := 70) rfl ?_); refine goesL_ (some 15) rfl rfl Try.func70 (by kernel_rfl) rfl #[.int .i64 a0, .int .i64 ji7] rfl (by (try simp only [List.map_toArray, List.map_cons, List.map_nil]); first | done | (simp only [hji7]; rfl) | rfl | (simp only [List.length_drop, List.length_take]; rfl)) ?_; (with_reducible refine (flywheelref05_mod.calls a0 ji7 t425 _ A8.out).mono ?_); rintro e w' ⟨rfl, ⟨nd, rfl⟩⟩; refine ⟨_, rfl, ?_⟩))
    go_ret
    exact ⟨by first | rfl | (simp; done) | (simp only [← hji5, ← hji7] <;> (first | rfl | simp)) | (simp [*]; done), by repeat (first | exact Drawn0.refl _ | apply Drawn0.step)⟩
   ·rw [if_neg c6] at H
    exact absurd H (by simp)
def flywheelref05_Cut.f (a0 : Int) (a1 : Int) : Option (Int) := some (if 1 ≤ a1 ∧ a1 ≤ 32 then a0 % 2 ^ a1.toNat else 0)
theorem tmod_emod (n m : Int) (hm : 0 < m) (hm2 : m ≤ 4294967296) : Int.tmod (wrap64 (Int.tmod n m + m)) m = n % m := by
 have h1 : Int.tmod n m < m := Int.tmod_lt_of_pos n hm
 have h2 : -m < Int.tmod n m := by have := Int.tmod_lt_of_pos (-n) hm; rw [Int.neg_tmod] at this; omega
 have hw : wrap64 (Int.tmod n m + m) = Int.tmod n m + m := by unfold wrap64; omega
 rw [hw, Int.tmod_eq_emod_of_nonneg (by omega)]
 rw [Int.add_emod_right, Int.emod_def (Int.tmod n m), Int.tmod_def, Int.emod_def n m]
 have e := Int.emod_emod_of_dvd n (Int.dvd_refl m)
 have q1 : (n - m * n.tdiv m) % m = n % m := by rw [Int.sub_emod, Int.mul_emod_right, Int.sub_zero, Int.emod_emod_of_dvd n (Int.dvd_refl m)]
 rw [← Int.emod_def, ← Int.emod_def, q1]
theorem flywheelref05_Cut.told (a0 a1 : Int) : flywheelref05_Cut_p.f a0 a1 = some (if 1 ≤ a1 ∧ a1 ≤ 32 then a0 % 2 ^ a1.toNat else 0) := by
 unfold flywheelref05_Cut_p.f flywheelref05_mod.f
 by_cases h1 : a1 < 1
 ·rw [if_pos h1, if_neg (by omega)]
 by_cases h2 : a1 > 32
 ·rw [if_neg h1, if_pos h2, if_neg (by omega)]
 rw [if_neg h1, if_neg h2]
 have hc : 1 ≤ a1 ∧ a1 ≤ 32 := ⟨by omega, by omega⟩
 rw [if_pos hc]
 obtain ⟨k, rfl⟩ : ∃ k : Nat, a1 = k := ⟨a1.toNat, by omega⟩
 have hu : IntKind.u64.wrap (k : Int) = (k : Int) := by rw [IntKind.wrap_u64]; omega
 have hp : (2 : Nat) ^ k ≤ 2 ^ 32 := Nat.pow_le_pow_right (by omega) (by omega)
 have hp1 := Nat.two_pow_pos k
 have e2 : ((2 : Int) ^ k) = ((2 ^ k : Nat) : Int) := by rw [Int.natCast_pow]; rfl
 have e : shl .i64 1 (k : Int) = 2 ^ k := by
  unfold shl
  rw [Int.toNat_natCast, Nat.min_eq_left (show k ≤ IntKind.i64.bits from by show k ≤ 64; omega), Int.one_mul, IntKind.wrap_i64]
  rw [e2]; omega
 rw [hu, if_pos (by omega), e, if_neg (by rw [e2]; omega), Int.toNat_natCast, tmod_emod a0 _ (by rw [e2]; omega) (by rw [e2]; omega)]
 rfl
theorem flywheelref05_Cut.calls (a0 : Int) (a1 : Int) (r : Int) (w : World) (h : flywheelref05_Cut.f a0 a1 = some r) :
  Calls Try.prog 50 #[.int .i64 a0, .int .i64 a1] w fun e w' => e = .returned (.int .i64 r) ∧ Drawn0 w w' :=
 flywheelref05_Cut_p.calls a0 a1 r w ((flywheelref05_Cut.told a0 a1).trans h)
def flywheelref10_signed.f (a0 : Int) (a1 : Int) : Option (Int) := if 0 ≤ (IntKind.u64.wrap (wrap64 (a1 - 1))) then (if (wrap64 (a0)) ≥ (shl .i64 1 (IntKind.u64.wrap (wrap64 (a1 - 1)))) then (if 0 ≤ (IntKind.u64.wrap (a1)) then (some (wrap64 ((wrap64 (a0)) - (shl .i64 1 (IntKind.u64.wrap (a1)))))) else (none)) else (some (wrap64 (a0)))) else (none)
set_option maxHeartbeats 8000000 in
set_option maxRecDepth 100000 in
theorem flywheelref10_signed.calls (a0 : Int) (a1 : Int) (r : Int) (w : World) (h : flywheelref10_signed.f a0 a1 = some r) :
  Calls Try.prog 52 #[.int .u32 a0, .int .i64 a1] w fun e w' => e = .returned (.int .i64 r) ∧ Drawn0 w w' := by
 have H : (if 0 ≤ (IntKind.u64.wrap (wrap64 (a1 - 1))) then (if (wrap64 (a0)) ≥ (shl .i64 1 (IntKind.u64.wrap (wrap64 (a1 - 1)))) then (if 0 ≤ (IntKind.u64.wrap (a1)) then (some (wrap64 ((wrap64 (a0)) - (shl .i64 1 (IntKind.u64.wrap (a1)))))) else (none)) else (some (wrap64 (a0)))) else (none)) = some r := h
 clear h
 obtain ⟨ji3, hji3⟩ : ∃ j_ : Int, (IntKind.u64.wrap (wrap64 (a1 - 1))) = j_ := ⟨_, rfl⟩
 replace H : (if 0 ≤ (ji3) then (if (wrap64 (a0)) ≥ (shl .i64 1 (ji3)) then (if 0 ≤ (IntKind.u64.wrap (a1)) then (some (wrap64 ((wrap64 (a0)) - (shl .i64 1 (IntKind.u64.wrap (a1)))))) else (none)) else (some (wrap64 (a0)))) else (none)) = some r := by first | (rw [hji3] at H; exact H) | (simp only [hji3] at H ⊢; exact H)
 by_cases c4 : 0 ≤ (ji3)
 ·rw [if_pos c4] at H
  have c4b0 := eq_true c4
  have c4b1 : decide (0 ≤ (ji3)) = true := decide_eq_true c4
  clear c4
  obtain ⟨ji5, hji5⟩ : ∃ j_ : Int, (shl .i64 1 (ji3)) = j_ := ⟨_, rfl⟩
  replace H : (if (wrap64 (a0)) ≥ (ji5) then (if 0 ≤ (IntKind.u64.wrap (a1)) then (some (wrap64 ((wrap64 (a0)) - (shl .i64 1 (IntKind.u64.wrap (a1)))))) else (none)) else (some (wrap64 (a0)))) = some r := by first | (rw [hji5] at H; exact H) | (simp only [hji5] at H ⊢; exact H)
  have hji5_ : (IntKind.i64.wrap (1 * 2 ^ min (ji3).toNat 64)) = ji5 := hji5
  have hji5z : (ji3) ≤ 64 → (IntKind.i64.wrap (1 * 2 ^ (ji3).toNat)) = ji5 := shl_small hji5
  have hji5u : (IntKind.i64.wrap (2 ^ min (ji3).toNat 64)) = ji5 := by have h_ := hji5_; rw [Int.one_mul] at h_; exact h_
  have hji5v : (ji3) ≤ 64 → (IntKind.i64.wrap (2 ^ (ji3).toNat)) = ji5 := fun hle_ => by have h_ := hji5z hle_; rw [Int.one_mul] at h_; exact h_
  have hji5y : (wrap64 (1 * 2 ^ min (ji3).toNat 64)) = ji5 := (i64_w _).symm.trans hji5_
  have hji5x : (ji3) ≤ 64 → (wrap64 (1 * 2 ^ (ji3).toNat)) = ji5 := fun h_ => (i64_w _).symm.trans (hji5z h_)
  by_cases c6 : (wrap64 (a0)) ≥ (ji5)
  ·rw [if_pos c6] at H
   have c6b0 : decide ((ji5) ≤ (wrap64 (a0))) = true := decide_eq_true c6
   clear c6
   obtain ⟨ji7, hji7⟩ : ∃ j_ : Int, (IntKind.u64.wrap (a1)) = j_ := ⟨_, rfl⟩
   replace H : (if 0 ≤ (ji7) then (some (wrap64 ((wrap64 (a0)) - (shl .i64 1 (ji7))))) else (none)) = some r := by first | (rw [hji7] at H; exact H) | (simp only [hji7] at H ⊢; exact H)
   by_cases c8 : 0 ≤ (ji7)
   ·rw [if_pos c8] at H
    have c8b0 := eq_true c8
    have c8b1 : decide (0 ≤ (ji7)) = true := decide_eq_true c8
    clear c8
    obtain ⟨ji9, hji9⟩ : ∃ j_ : Int, (shl .i64 1 (ji7)) = j_ := ⟨_, rfl⟩
    replace H : (some (wrap64 ((wrap64 (a0)) - (ji9)))) = some r := by first | (rw [hji9] at H; exact H) | (simp only [hji9] at H ⊢; exact H)
    have hji9_ : (IntKind.i64.wrap (1 * 2 ^ min (ji7).toNat 64)) = ji9 := hji9
    have hji9z : (ji7) ≤ 64 → (IntKind.i64.wrap (1 * 2 ^ (ji7).toNat)) = ji9 := shl_small hji9
    have hji9u : (IntKind.i64.wrap (2 ^ min (ji7).toNat 64)) = ji9 := by have h_ := hji9_; rw [Int.one_mul] at h_; exact h_
    have hji9v : (ji7) ≤ 64 → (IntKind.i64.wrap (2 ^ (ji7).toNat)) = ji9 := fun hle_ => by have h_ := hji9z hle_; rw [Int.one_mul] at h_; exact h_
    have hji9y : (wrap64 (1 * 2 ^ min (ji7).toNat 64)) = ji9 := (i64_w _).symm.trans hji9_
    have hji9x : (ji7) ≤ 64 → (wrap64 (1 * 2 ^ (ji7).toNat)) = ji9 := fun h_ => (i64_w _).symm.trans (hji9z h_)
    obtain rfl := Option.some.inj H
    go_enter Try.func52, Try.ntmps52
    go_wp2
    go_ret
    exact ⟨by first | rfl | (simp; done) | (simp only [← hji3, ← hji5, ← hji7, ← hji9] <;> (first | rfl | simp)) | (simp [*]; done), by repeat (first | exact Drawn0.refl _ | apply Drawn0.step)⟩
   ·rw [if_neg c8] at H
    exact absurd H (by simp)
  ·rw [if_neg c6] at H
   have c6b0 : decide ((ji5) ≤ (wrap64 (a0))) = false := decide_eq_false c6
   clear c6
   obtain rfl := Option.some.inj H
   go_enter Try.func52, Try.ntmps52
   go_wp2
   go_ret
   exact ⟨by first | rfl | (simp; done) | (simp only [← hji3, ← hji5] <;> (first | rfl | simp)) | (simp [*]; done), by repeat (first | exact Drawn0.refl _ | apply Drawn0.step)⟩
 ·rw [if_neg c4] at H
  exact absurd H (by simp)
mutual
def flywheelref10_chunk.j0 : Nat → Int → List Int → Int → Int → Bool → Option (List Int × Int)
 | 0, _, _, _, _, _ => none
 | k + 1, x1, x6, x7, x8, x29 => if x29 = true then (some (([] : List Int), 100)) else (flywheelref10_chunk.l0 k x1 x6 x7 x8 0)
def flywheelref10_chunk.l0 : Nat → Int → List Int → Int → Int → Int → Option (List Int × Int)
 | 0, _, _, _, _, _ => none
 | k + 1, x1, x6, x7, x8, x9 => if x9 < x8 then (if x9 < x1 then (if x6.length < 17592186044416 then (flywheelref10_chunk.l0 k x1 (x6 ++ [x7]) x7 x8 (wrap64 (x9 + 1))) else (none)) else (some (x6, 0))) else (some (x6, 0))
def flywheelref10_chunk.j2 : Nat → Int → Int → List Int → Int → Int → Option (List Int × Int)
 | 0, _, _, _, _, _ => none
 | k + 1, x0, x1, x6, x10, x11 => flywheelref10_chunk.l1 k x0 x1 x6 x10 x11 0
def flywheelref10_chunk.l1 : Nat → Int → Int → List Int → Int → Int → Int → Option (List Int × Int)
 | 0, _, _, _, _, _, _ => none
 | k + 1, x0, x1, x6, x10, x11, x12 => if x12 < x10 then (if 0 ≤ (IntKind.u64.wrap (wrap64 (14 - (wrap64 (x11 * (wrap64 (x12 + 1))))))) then (if 0 ≤ (IntKind.u64.wrap (x11)) then (if (wrap64 (Go.bits .and .u32 (shr .u32 x0 (IntKind.u64.wrap (wrap64 (14 - (wrap64 (x11 * (wrap64 (x12 + 1)))))))) (((shl .u32 1 (IntKind.u64.wrap (x11))) - 1) % 4294967296))) = 3 then (flywheelref10_chunk.j4 k x0 x1 x6 x10 x11 x12 (wrap64 (Go.bits .and .u32 (shr .u32 x0 (IntKind.u64.wrap (wrap64 (14 - (wrap64 (x11 * (wrap64 (x12 + 1)))))))) (((shl .u32 1 (IntKind.u64.wrap (x11))) - 1) % 4294967296))) true) else (if x12 ≥ x1 then (flywheelref10_chunk.j4 k x0 x1 x6 x10 x11 x12 (wrap64 (Go.bits .and .u32 (shr .u32 x0 (IntKind.u64.wrap (wrap64 (14 - (wrap64 (x11 * (wrap64 (x12 + 1)))))))) (((shl .u32 1 (IntKind.u64.wrap (x11))) - 1) % 4294967296))) ((wrap64 (Go.bits .and .u32 (shr .u32 x0 (IntKind.u64.wrap (wrap64 (14 - (wrap64 (x11 * (wrap64 (x12 + 1)))))))) (((shl .u32 1 (IntKind.u64.wrap (x11))) - 1) % 4294967296))) != 0)) else (flywheelref10_chunk.j4 k x0 x1 x6 x10 x11 x12 (wrap64 (Go.bits .and .u32 (shr .u32 x0 (IntKind.u64.wrap (wrap64 (14 - (wrap64 (x11 * (wrap64 (x12 + 1)))))))) (((shl .u32 1 (IntKind.u64.wrap (x11))) - 1) % 4294967296))) false))) else (none)) else (none)) else (some (x6, 0))
def flywheelref10_chunk.j4 : Nat → Int → Int → List Int → Int → Int → Int → Int → Bool → Option (List Int × Int)
 | 0, _, _, _, _, _, _, _, _ => none
 | k + 1, x0, x1, x6, x10, x11, x12, x13, x77 => if x77 = true then (some (([] : List Int), 100)) else (if x12 < x1 then (if x6.length < 17592186044416 then (flywheelref10_chunk.l1 k x0 x1 (x6 ++ [x13]) x10 x11 (wrap64 (x12 + 1))) else (none)) else (flywheelref10_chunk.l1 k x0 x1 x6 x10 x11 (wrap64 (x12 + 1))))
end
def flywheelref10_chunk.f (k : Nat) (a0 : Int) (a1 : Int) : Option (List Int × Int) := if (a0 / 32768) = 0 then (if (wrap64 (Go.bits .and .u32 (a0 / 8192) 3)) = 3 then (flywheelref10_chunk.j0 k a1 ([] : List Int) (wrap64 (Go.bits .and .u32 (a0 / 8192) 3)) (wrap64 (Go.bits .and .u32 a0 8191)) true) else (flywheelref10_chunk.j0 k a1 ([] : List Int) (wrap64 (Go.bits .and .u32 (a0 / 8192) 3)) (wrap64 (Go.bits .and .u32 a0 8191)) ((wrap64 (Go.bits .and .u32 a0 8191)) == 0))) else (if (a0 / 16384) = 3 then (flywheelref10_chunk.j2 k a0 a1 ([] : List Int) 7 2) else (flywheelref10_chunk.j2 k a0 a1 ([] : List Int) 14 1))
theorem flywheelref10_chunk.mono_l : ∀ k, (∀ y0 y1 y2 y3 y4, LeO (flywheelref10_chunk.j0 k y0 y1 y2 y3 y4) (flywheelref10_chunk.j0 (k + 1) y0 y1 y2 y3 y4)) ∧ (∀ y0 y1 y2 y3 y4, LeO (flywheelref10_chunk.l0 k y0 y1 y2 y3 y4) (flywheelref10_chunk.l0 (k + 1) y0 y1 y2 y3 y4)) ∧ (∀ y0 y1 y2 y3 y4, LeO (flywheelref10_chunk.j2 k y0 y1 y2 y3 y4) (flywheelref10_chunk.j2 (k + 1) y0 y1 y2 y3 y4)) ∧ (∀ y0 y1 y2 y3 y4 y5, LeO (flywheelref10_chunk.l1 k y0 y1 y2 y3 y4 y5) (flywheelref10_chunk.l1 (k + 1) y0 y1 y2 y3 y4 y5)) ∧ (∀ y0 y1 y2 y3 y4 y5 y6 y7, LeO (flywheelref10_chunk.j4 k y0 y1 y2 y3 y4 y5 y6 y7) (flywheelref10_chunk.j4 (k + 1) y0 y1 y2 y3 y4 y5 y6 y7))
 | 0 => ⟨fun _ _ _ _ _ r h => by simp [flywheelref10_chunk.j0] at h, fun _ _ _ _ _ r h => by simp [flywheelref10_chunk.l0] at h, fun _ _ _ _ _ r h => by simp [flywheelref10_chunk.j2] at h, fun _ _ _ _ _ _ r h => by simp [flywheelref10_chunk.l1] at h, fun _ _ _ _ _ _ _ _ r h => by simp [flywheelref10_chunk.j4] at h⟩
 | k + 1 => by
  obtain ⟨ih0, ih1, ih2, ih3, ih4⟩ := flywheelref10_chunk.mono_l k
  refine ⟨?_, ?_, ?_, ?_, ?_⟩
  ·intro y0 y1 y2 y3 y4
   unfold flywheelref10_chunk.j0
   repeat' first
   | (with_reducible exact ih0 _ _ _ _ _)
   | (with_reducible exact ih1 _ _ _ _ _)
   | (with_reducible exact ih2 _ _ _ _ _)
   | (with_reducible exact ih3 _ _ _ _ _ _)
   | (with_reducible exact ih4 _ _ _ _ _ _ _ _)
   | (with_reducible exact LeO.refl _)
   | (with_reducible exact LeO.none _)
   | (with_reducible refine LeO.ite ?_ ?_)
   | (with_reducible refine LeO.bind ?_ (fun _ => ?_))
   | exact ih0 _ _ _ _ _
   | exact ih1 _ _ _ _ _
   | exact ih2 _ _ _ _ _
   | exact ih3 _ _ _ _ _ _
   | exact ih4 _ _ _ _ _ _ _ _
   | exact LeO.none _
   | refine LeO.ite ?_ ?_
   | refine LeO.bind ?_ (fun _ => ?_)
  ·intro y0 y1 y2 y3 y4
   unfold flywheelref10_chunk.l0
   repeat' first
   | (with_reducible exact ih0 _ _ _ _ _)
   | (with_reducible exact ih1 _ _ _ _ _)
   | (with_reducible exact ih2 _ _ _ _ _)
   | (with_reducible exact ih3 _ _ _ _ _ _)
   | (with_reducible exact ih4 _ _ _ _ _ _ _ _)
   | (with_reducible exact LeO.refl _)
   | (with_reducible exact LeO.none _)
   | (with_reducible refine LeO.ite ?_ ?_)
   | (with_reducible refine LeO.bind ?_ (fun _ => ?_))
   | exact ih0 _ _ _ _ _
   | exact ih1 _ _ _ _ _
   | exact ih2 _ _ _ _ _
   | exact ih3 _ _ _ _ _ _
   | exact ih4 _ _ _ _ _ _ _ _
   | exact LeO.none _
   | refine LeO.ite ?_ ?_
   | refine LeO.bind ?_ (fun _ => ?_)
  ·intro y0 y1 y2 y3 y4
   unfold flywheelref10_chunk.j2
   repeat' first
   | (with_reducible exact ih0 _ _ _ _ _)
   | (with_reducible exact ih1 _ _ _ _ _)
   | (with_reducible exact ih2 _ _ _ _ _)
   | (with_reducible exact ih3 _ _ _ _ _ _)
   | (with_reducible exact ih4 _ _ _ _ _ _ _ _)
   | (with_reducible exact LeO.refl _)
   | (with_reducible exact LeO.none _)
   | (with_reducible refine LeO.ite ?_ ?_)
   | (with_reducible refine LeO.bind ?_ (fun _ => ?_))
   | exact ih0 _ _ _ _ _
   | exact ih1 _ _ _ _ _
   | exact ih2 _ _ _ _ _
   | exact ih3 _ _ _ _ _ _
   | exact ih4 _ _ _ _ _ _ _ _
   | exact LeO.none _
   | refine LeO.ite ?_ ?_
   | refine LeO.bind ?_ (fun _ => ?_)
  ·intro y0 y1 y2 y3 y4 y5
   unfold flywheelref10_chunk.l1
   repeat' first
   | (with_reducible exact ih0 _ _ _ _ _)
   | (with_reducible exact ih1 _ _ _ _ _)
   | (with_reducible exact ih2 _ _ _ _ _)
   | (with_reducible exact ih3 _ _ _ _ _ _)
   | (with_reducible exact ih4 _ _ _ _ _ _ _ _)
   | (with_reducible exact LeO.refl _)
   | (with_reducible exact LeO.none _)
   | (with_reducible refine LeO.ite ?_ ?_)
   | (with_reducible refine LeO.bind ?_ (fun _ => ?_))
   | exact ih0 _ _ _ _ _
   | exact ih1 _ _ _ _ _
   | exact ih2 _ _ _ _ _
   | exact ih3 _ _ _ _ _ _
   | exact ih4 _ _ _ _ _ _ _ _
   | exact LeO.none _
   | refine LeO.ite ?_ ?_
   | refine LeO.bind ?_ (fun _ => ?_)
  ·intro y0 y1 y2 y3 y4 y5 y6 y7
   unfold flywheelref10_chunk.j4
   repeat' first
   | (with_reducible exact ih0 _ _ _ _ _)
   | (with_reducible exact ih1 _ _ _ _ _)
   | (with_reducible exact ih2 _ _ _ _ _)
   | (with_reducible exact ih3 _ _ _ _ _ _)
   | (with_reducible exact ih4 _ _ _ _ _ _ _ _)
   | (with_reducible exact LeO.refl _)
   | (with_reducible exact LeO.none _)
   | (with_reducible refine LeO.ite ?_ ?_)
   | (with_reducible refine LeO.bind ?_ (fun _ => ?_))
   | exact ih0 _ _ _ _ _
   | exact ih1 _ _ _ _ _
   | exact ih2 _ _ _ _ _
   | exact ih3 _ _ _ _ _ _
   | exact ih4 _ _ _ _ _ _ _ _
   | exact LeO.none _
   | refine LeO.ite ?_ ?_
   | refine LeO.bind ?_ (fun _ => ?_)
theorem flywheelref10_chunk.mono : ∀ a0 a1 k, LeO (flywheelref10_chunk.f k a0 a1) (flywheelref10_chunk.f (k + 1) a0 a1) := by
 intro a0 a1 k
 obtain ⟨ih0, ih1, ih2, ih3, ih4⟩ := flywheelref10_chunk.mono_l k
 unfold flywheelref10_chunk.f
 repeat' first
   | (with_reducible exact ih0 _ _ _ _ _)
   | (with_reducible exact ih1 _ _ _ _ _)
   | (with_reducible exact ih2 _ _ _ _ _)
   | (with_reducible exact ih3 _ _ _ _ _ _)
   | (with_reducible exact ih4 _ _ _ _ _ _ _ _)
   | (with_reducible exact LeO.refl _)
   | (with_reducible exact LeO.none _)
   | (with_reducible refine LeO.ite ?_ ?_)
   | (with_reducible refine LeO.bind ?_ (fun _ => ?_))
   | exact ih0 _ _ _ _ _
   | exact ih1 _ _ _ _ _
   | exact ih2 _ _ _ _ _
   | exact ih3 _ _ _ _ _ _
   | exact ih4 _ _ _ _ _ _ _ _
   | exact LeO.none _
   | refine LeO.ite ?_ ?_
   | refine LeO.bind ?_ (fun _ => ?_)
set_option maxHeartbeats 8000000 in
set_option maxRecDepth 100000 in
theorem flywheelref10_chunk.calls (k : Nat) (a0 : Int) (a1 : Int) (r1 : List Int) (r2 : Int) (w : World) (h : flywheelref10_chunk.f k a0 a1 = some (r1, r2)) :
  Calls Try.prog 53 #[.int .u32 a0, .int .i64 a1] w fun e w' => ∃ v0_ : Value, e = .returned (.tuple #[v0_, .int .i64 r2]) ∧ Kd.R (Kd.int .i64) 3 w' w.heap.size (fun _ => True) v0_ r1 ∧ Below w.heap.size w w' := by
 have HB := Aside0.mk (Below.refl w.heap.size w)
 have H : (if (a0 / 32768) = 0 then (if (wrap64 (Go.bits .and .u32 (a0 / 8192) 3)) = 3 then (flywheelref10_chunk.j0 k a1 ([] : List Int) (wrap64 (Go.bits .and .u32 (a0 / 8192) 3)) (wrap64 (Go.bits .and .u32 a0 8191)) true) else (flywheelref10_chunk.j0 k a1 ([] : List Int) (wrap64 (Go.bits .and .u32 (a0 / 8192) 3)) (wrap64 (Go.bits .and .u32 a0 8191)) ((wrap64 (Go.bits .and .u32 a0 8191)) == 0))) else (if (a0 / 16384) = 3 then (flywheelref10_chunk.j2 k a0 a1 ([] : List Int) 7 2) else (flywheelref10_chunk.j2 k a0 a1 ([] : List Int) 14 1))) = some (r1, r2) := h
 clear h
 by_cases c3 : (a0 / 32768) = 0
 ·rw [if_pos c3] at H
  have c3b0 : ((a0 / 32768) == 0) = true := beq_iff_eq.mpr c3
  have c3b1 : ((a0 / 32768) != 0) = false := bne_eq_false_iff_eq.mpr c3
  clear c3
  have HC4 := Aside0.mk H
  clear H
  go_enter Try.func53, Try.ntmps53
  go_upto_region 4 with (fail)
  go_cut [29] (fun v29 wc => ∃ (kq : Nat) (x29_3 : Bool), v29 = .bool x29_3 ∧ Aside0 (flywheelref10_chunk.j0 kq a1 ([] : List Int) (wrap64 (Go.bits .and .u32 (a0 / 8192) 3)) (wrap64 (Go.bits .and .u32 a0 8191)) x29_3 = some (r1, r2)) ∧ Aside0 (kq ≤ k) ∧ Aside0 (Kd.R (Kd.int .i64) 3 wc w.heap.size (fun _ => True) (.slice none 0 0) ([] : List Int)) ∧ Aside0 (Below w.heap.size w wc))
  case first =>
   have H := HC4.out
   clear HC4
   by_cases c5 : (wrap64 (Go.bits .and .u32 (a0 / 8192) 3)) = 3
   ·rw [if_pos c5] at H
    have c5b0 : ((wrap64 (Go.bits .and .u32 (a0 / 8192) 3)) == 3) = true := beq_iff_eq.mpr c5
    have c5b1 : ((wrap64 (Go.bits .and .u32 (a0 / 8192) 3)) != 3) = false := bne_eq_false_iff_eq.mpr c5
    clear c5
    (first | rw [c5b0] | (simp only [i64_w, i32_w]; rw [c5b0]) | skip)
    have H' := Aside0.mk H
    clear H
    go_wp2
    go_meet
    case rel => exact ⟨_, (true), (by first | rfl | (simp; done) | (simp [*]; done)), H', ⟨by first | omega | exact Nat.le_refl _⟩, ⟨by first | exact Kd.R_nil _ _ _ _ _ | exact Kd.N_nil _ _ _ _ _ | exact Kd.V_nil _ _ _ _ _ | exact Kd.Q_nil _ _ _ _ _ | exact Kd.S_nil _ _ _ _ _⟩, ⟨by repeat (first | (with_reducible first | exact HB.out | apply below_alloc | apply pw_below_drewN | apply below_drew1) | exact HB.out)⟩⟩
   ·rw [if_neg c5] at H
    have c5b0 : ((wrap64 (Go.bits .and .u32 (a0 / 8192) 3)) == 3) = false := beq_eq_false_iff_ne.mpr c5
    have c5b1 : ((wrap64 (Go.bits .and .u32 (a0 / 8192) 3)) != 3) = true := bne_iff_ne.mpr c5
    (first | rw [c5b0] | (simp only [i64_w, i32_w]; rw [c5b0]) | skip)
    have H' := Aside0.mk H
    clear H
    go_wp2
    go_meet
    case rel => exact ⟨_, (((wrap64 (Go.bits .and .u32 a0 8191)) == 0)), (by first | rfl | (simp; done) | (simp [*]; done)), H', ⟨by first | omega | exact Nat.le_refl _⟩, ⟨by first | exact Kd.R_nil _ _ _ _ _ | exact Kd.N_nil _ _ _ _ _ | exact Kd.V_nil _ _ _ _ _ | exact Kd.Q_nil _ _ _ _ _ | exact Kd.S_nil _ _ _ _ _⟩, ⟨by repeat (first | (with_reducible first | exact HB.out | apply below_alloc | apply pw_below_drewN | apply below_drew1) | exact HB.out)⟩⟩
  case rest =>
   clear HC4
   try clear p2
   try clear c3
   try clear c3b0
   try clear c3b1
   try clear c5
   try clear c5b0
   try clear c5b1
   obtain ⟨kq, x29_3, rfl, HA, HJ3, HO_6, HB⟩ := hcut
   cases kq with
   | zero => exact absurd HA.out (by simp [flywheelref10_chunk.j0])
   | succ kj3 =>
    have H := HA.out
    clear HA
    simp only [flywheelref10_chunk.j0] at H
    by_cases c6 : x29_3 = true
    ·subst c6
     have H1 : (some (([] : List Int), 100)) = some (r1, r2) := by rw [if_pos rfl] at H; exact H
     clear H
     have H := H1
     clear H1
     simp only [Option.some.injEq, Prod.mk.injEq] at H
     obtain ⟨rfl, rfl⟩ := H
     go_wp2
     go_ret2
     exact ⟨_, by first | rfl | (simp [errW_none, errW_some] <;> rfl) | (simp [*, errW_none, errW_some] <;> rfl), by first | exact Kd.R_nil _ _ _ _ _ | exact Kd.N_nil _ _ _ _ _ | exact Kd.V_nil _ _ _ _ _ | exact Kd.Q_nil _ _ _ _ _ | exact Kd.S_nil _ _ _ _ _, by repeat (first | (with_reducible first | exact HB.out | apply below_alloc | apply pw_below_drewN | apply below_drew1) | exact HB.out)⟩
    ·replace c6 := Bool.eq_false_iff.mpr c6
     subst c6
     have H1 : (flywheelref10_chunk.l0 kj3 a1 ([] : List Int) (wrap64 (Go.bits .and .u32 (a0 / 8192) 3)) (wrap64 (Go.bits .and .u32 a0 8191)) 0) = some (r1, r2) := by rw [if_neg (show ¬ (false = true) by decide)] at H; exact H
     clear H
     have H := H1
     clear H1
     have H' := Aside0.mk H
     clear H
     go_wp2
     go_loopg [6, 9] kj3 (fun kq v6 v9 w' => ∃ (x6_2 : List Int) (x9_2 : Int), v9 = .int .i64 x9_2 ∧ Aside0 (flywheelref10_chunk.l0 kq a1 x6_2 (wrap64 (Go.bits .and .u32 (a0 / 8192) 3)) (wrap64 (Go.bits .and .u32 a0 8191)) x9_2 = some (r1, r2)) ∧ Aside0 (kq ≤ kj3) ∧ Aside0 (Kd.R (Kd.int .i64) 3 w' w.heap.size (fun _ => True) v6 x6_2) ∧ Aside0 (Below w.heap.size w w'))
     case atStart => exact ⟨(([] : List Int)), (0), (by first | rfl | (simp; done) | (simp [*]; done)), H', ⟨Nat.le_refl _⟩, ⟨by (with_reducible repeat (first | apply Kd.R_alloc | apply Kd.R_drewN | apply Kd.R_drew)); exact HO_6.out⟩, ⟨by repeat (first | (with_reducible first | exact HB.out | apply below_alloc | apply pw_below_drewN | apply below_drew1) | exact HB.out)⟩⟩
     case round =>
      clear H'
      try clear p2
      try clear c3
      try clear c3b0
      try clear c3b1
      try clear c5
      try clear c5b0
      try clear c5b1
      try clear c6
      try clear p6
      try clear p2
      obtain ⟨x6_2, x9_2, rfl, HA, HK2, HO_6, HB⟩ := hrel
      cases gk with
      | zero => exact absurd HA.out (by simp [flywheelref10_chunk.l0])
      | succ k2 =>
       have H := HA.out
       clear HA
       simp only [flywheelref10_chunk.l0] at H
       by_cases c7 : x9_2 < (wrap64 (Go.bits .and .u32 a0 8191))
       ·rw [if_pos c7] at H
        have c7b0 : decide (x9_2 < (wrap64 (Go.bits .and .u32 a0 8191))) = true := decide_eq_true c7
        clear c7
        by_cases c8 : x9_2 < a1
        ·rw [if_pos c8] at H
         have c8b0 : decide (x9_2 < a1) = true := decide_eq_true c8
         clear c8
         by_cases c9 : x6_2.length < 17592186044416
         ·rw [if_pos c9] at H
          have LMc9 := Aside0.mk c9
          clear c9
          obtain ⟨y445, hy445⟩ : ∃ y_ : List Int, y_ = (x6_2 ++ [(wrap64 (Go.bits .and .u32 (a0 / 8192) 3))]) := ⟨_, rfl⟩
          replace H : (flywheelref10_chunk.l0 k2 a1 y445 (wrap64 (Go.bits .and .u32 (a0 / 8192) 3)) (wrap64 (Go.bits .and .u32 a0 8191)) (wrap64 (x9_2 + 1))) = some (r1, r2) := by first | (rw [hy445]; with_reducible exact H) | (have H2_ := (Option.bind_some _ _).symm.trans H; rw [hy445]; with_reducible exact H2_) | (have H2_ := (Option.bind_some _ _).symm.trans H; with_reducible exact H2_) | with_reducible exact H | (rw [hy445]; exact H) | exact H
          have Ny445 := Aside0.mk hy445
          clear hy445
          have H' := Aside0.mk H
          clear H
          go_wp2_with (first | ((with_reducible refine gate_builtin (b := .append) (xs := #[.tmp 40, .tmp 42]) rfl ?_); at_builtin; refine Kd.R_append (Kd.int .i64) (w0 := w) w.heap.size rfl (.tmp 40) (.tmp 42) 24 3 (.int .i64 0) 8 rfl Try.underlying24 info3 rfl (by decide) (by omega) u6 x6_2 (wrap64 (Go.bits .and .u32 (a0 / 8192) 3)) [.int .i64 (wrap64 (Go.bits .and .u32 (a0 / 8192) 3))] (fun _ => True) (fun _ => False) rfl rfl ?aP (fun _ hk => hk.elim) ?aF ?aO ?aB ?aS ?aL ?_; (case aP => exact rfl); (case aB => exact (by repeat (first | (with_reducible first | exact HB.out | apply below_alloc | apply pw_below_drewN | apply below_drew1) | exact HB.out))); (case aF => exact (fun _ _ => trivial)); (case aO => exact (by (with_reducible repeat (first | apply Kd.R_alloc | apply Kd.R_drewN | apply Kd.R_drew)); exact HO_6.out)); (case aS => exact (below_size (by repeat (first | (with_reducible first | exact HB.out | apply below_alloc | apply pw_below_drewN | apply below_drew1) | exact HB.out)))); (case aL => have := LMc9.out; omega); intro v446 w10 ho hb hg hat; rw [← Ny445.out] at ho; have n0_ := Aside0.mk (hb); have n1_ := Aside0.mk (ho); clear HB; clear HO_6; have HB := n0_; have HO447 := n1_; clear n0_ n1_; clear ho hb hg hat))
          go_roundg k2
          case measure => have := HJ3.out; have := HK2.out; omega
          case rel => exact ⟨(y445), (wrap64 (x9_2 + 1)), (by first | rfl | (simp; done) | (simp [*]; done)), H', ⟨by have := HJ3.out; have := HK2.out; omega⟩, ⟨by (with_reducible repeat (first | apply Kd.R_alloc | apply Kd.R_drewN | apply Kd.R_drew)); exact HO447.out⟩, ⟨by repeat (first | (with_reducible first | exact HB.out | apply below_alloc | apply pw_below_drewN | apply below_drew1) | exact HB.out)⟩⟩
         ·rw [if_neg c9] at H
          exact absurd H (by simp)
        ·rw [if_neg c8] at H
         have c8b0 : decide (x9_2 < a1) = false := decide_eq_false c8
         clear c8
         simp only [Option.some.injEq, Prod.mk.injEq] at H
         obtain ⟨rfl, rfl⟩ := H
         go_wp2
         go_ret2
         exact ⟨_, by first | rfl | (simp [errW_none, errW_some] <;> rfl) | (simp [*, errW_none, errW_some] <;> rfl), by (with_reducible repeat (first | apply Kd.R_alloc | apply Kd.R_drewN | apply Kd.R_drew)); exact HO_6.out, by repeat (first | (with_reducible first | exact HB.out | apply below_alloc | apply pw_below_drewN | apply below_drew1) | exact HB.out)⟩
       ·rw [if_neg c7] at H
        have c7b0 : decide (x9_2 < (wrap64 (Go.bits .and .u32 a0 8191))) = false := decide_eq_false c7
        clear c7
        simp only [Option.some.injEq, Prod.mk.injEq] at H
        obtain ⟨rfl, rfl⟩ := H
        go_wp2
        go_ret2
        exact ⟨_, by first | rfl | (simp [errW_none, errW_some] <;> rfl) | (simp [*, errW_none, errW_some] <;> rfl), by (with_reducible repeat (first | apply Kd.R_alloc | apply Kd.R_drewN | apply Kd.R_drew)); exact HO_6.out, by repeat (first | (with_reducible first | exact HB.out | apply below_alloc | apply pw_below_drewN | apply below_drew1) | exact HB.out)⟩
 ·rw [if_neg c3] at H
  have c3b0 : ((a0 / 32768) == 0) = false := beq_eq_false_iff_ne.mpr c3
  have c3b1 : ((a0 / 32768) != 0) = true := bne_iff_ne.mpr c3
  have HC11 := Aside0.mk H
  clear H
  go_enter Try.func53, Try.ntmps53
  go_upto_if 47 with (fail)
  go_cut [10, 11] (fun v10 v11 wc => ∃ (kq : Nat) (x10_10 : Int) (x11_10 : Int), v10 = .int .i64 x10_10 ∧ v11 = .int .i64 x11_10 ∧ Aside0 (flywheelref10_chunk.j2 kq a0 a1 ([] : List Int) x10_10 x11_10 = some (r1, r2)) ∧ Aside0 (kq ≤ k) ∧ Aside0 (Kd.R (Kd.int .i64) 3 wc w.heap.size (fun _ => True) (.slice none 0 0) ([] : List Int)) ∧ Aside0 (Below w.heap.size w wc))
  case first =>
   have H := HC11.out
   clear HC11
   by_cases c12 : (a0 / 16384) = 3
   ·rw [if_pos c12] at H
    have c12b0 : ((a0 / 16384) == 3) = true := beq_iff_eq.mpr c12
    have c12b1 : ((a0 / 16384) != 3) = false := bne_eq_false_iff_eq.mpr c12
    clear c12
    (first | rw [c12b0] | (simp only [i64_w, i32_w]; rw [c12b0]) | skip)
    have H' := Aside0.mk H
    clear H
    go_wp2
    go_meet
    case rel => exact ⟨_, (7), (2), (by first | rfl | (simp; done) | (simp [*]; done)), (by first | rfl | (simp; done) | (simp [*]; done)), H', ⟨by first | omega | exact Nat.le_refl _⟩, ⟨by first | exact Kd.R_nil _ _ _ _ _ | exact Kd.N_nil _ _ _ _ _ | exact Kd.V_nil _ _ _ _ _ | exact Kd.Q_nil _ _ _ _ _ | exact Kd.S_nil _ _ _ _ _⟩, ⟨by repeat (first | (with_reducible first | exact HB.out | apply below_alloc | apply pw_below_drewN | apply below_drew1) | exact HB.out)⟩⟩
   ·rw [if_neg c12] at H
    have c12b0 : ((a0 / 16384) == 3) = false := beq_eq_false_iff_ne.mpr c12
    have c12b1 : ((a0 / 16384) != 3) = true := bne_iff_ne.mpr c12
    (first | rw [c12b0] | (simp only [i64_w, i32_w]; rw [c12b0]) | skip)
    have H' := Aside0.mk H
    clear H
    go_wp2
    go_meet
    case rel => exact ⟨_, (14), (1), (by first | rfl | (simp; done) | (simp [*]; done)), (by first | rfl | (simp; done) | (simp [*]; done)), H', ⟨by first | omega | exact Nat.le_refl _⟩, ⟨by first | exact Kd.R_nil _ _ _ _ _ | exact Kd.N_nil _ _ _ _ _ | exact Kd.V_nil _ _ _ _ _ | exact Kd.Q_nil _ _ _ _ _ | exact Kd.S_nil _ _ _ _ _⟩, ⟨by repeat (first | (with_reducible first | exact HB.out | apply below_alloc | apply pw_below_drewN | apply below_drew1) | exact HB.out)⟩⟩
  case rest =>
   clear HC11
   try clear c1
   try clear p2
   try clear c3
   try clear c3b0
   try clear c3b1
   try clear c5
   try clear c5b0
   try clear c5b1
   try clear c6
   try clear p6
   try clear c7
   try clear c7b0
   try clear c8
   try clear c8b0
   try clear c9
   try clear c12
   try clear c12b0
   try clear c12b1
   try clear p2
   try clear p6
   obtain ⟨kq, x10_10, x11_10, rfl, rfl, HA, HJ10, HO_6, HB⟩ := hcut
   cases kq with
   | zero => exact absurd HA.out (by simp [flywheelref10_chunk.j2])
   | succ kj10 =>
    have H := HA.out
    clear HA
    simp only [flywheelref10_chunk.j2] at H
    have H' := Aside0.mk H
    clear H
    go_wp2
    go_loopg [6, 12] kj10 (fun kq v6 v12 w' => ∃ (x6_2 : List Int) (x12_2 : Int), v12 = .int .i64 x12_2 ∧ Aside0 (flywheelref10_chunk.l1 kq a0 a1 x6_2 x10_10 x11_10 x12_2 = some (r1, r2)) ∧ Aside0 (kq ≤ kj10) ∧ Aside0 (Kd.R (Kd.int .i64) 3 w' w.heap.size (fun _ => True) v6 x6_2) ∧ Aside0 (Below w.heap.size w w'))
    case atStart => exact ⟨(([] : List Int)), (0), (by first | rfl | (simp; done) | (simp [*]; done)), H', ⟨Nat.le_refl _⟩, ⟨by (with_reducible repeat (first | apply Kd.R_alloc | apply Kd.R_drewN | apply Kd.R_drew)); exact HO_6.out⟩, ⟨by repeat (first | (with_reducible first | exact HB.out | apply below_alloc | apply pw_below_drewN | apply below_drew1) | exact HB.out)⟩⟩
    case round =>
     clear H'
     try clear c1
     try clear p2
     try clear c3
     try clear c3b0
     try clear c3b1
     try clear c5
     try clear c5b0
     try clear c5b1
     try clear c6
     try clear p6
     try clear c7
     try clear c7b0
     try clear c8
     try clear c8b0
     try clear c9
     try clear c12
     try clear c12b0
     try clear c12b1
     try clear p2
     try clear p6
     obtain ⟨x6_2, x12_2, rfl, HA, HK2, HO_6, HB⟩ := hrel
     cases gk with
     | zero => exact absurd HA.out (by simp [flywheelref10_chunk.l1])
     | succ k2 =>
      have H := HA.out
      clear HA
      simp only [flywheelref10_chunk.l1] at H
      by_cases c13 : x12_2 < x10_10
      ·rw [if_pos c13] at H
       have c13b0 : decide (x12_2 < x10_10) = true := decide_eq_true c13
       clear c13
       obtain ⟨ji14, hji14⟩ : ∃ j_ : Int, (IntKind.u64.wrap (wrap64 (14 - (wrap64 (x11_10 * (wrap64 (x12_2 + 1))))))) = j_ := ⟨_, rfl⟩
       replace H : (if 0 ≤ (ji14) then (if 0 ≤ (IntKind.u64.wrap (x11_10)) then (if (wrap64 (Go.bits .and .u32 (shr .u32 a0 (ji14)) (((shl .u32 1 (IntKind.u64.wrap (x11_10))) - 1) % 4294967296))) = 3 then (flywheelref10_chunk.j4 k2 a0 a1 x6_2 x10_10 x11_10 x12_2 (wrap64 (Go.bits .and .u32 (shr .u32 a0 (ji14)) (((shl .u32 1 (IntKind.u64.wrap (x11_10))) - 1) % 4294967296))) true) else (if x12_2 ≥ a1 then (flywheelref10_chunk.j4 k2 a0 a1 x6_2 x10_10 x11_10 x12_2 (wrap64 (Go.bits .and .u32 (shr .u32 a0 (ji14)) (((shl .u32 1 (IntKind.u64.wrap (x11_10))) - 1) % 4294967296))) ((wrap64 (Go.bits .and .u32 (shr .u32 a0 (ji14)) (((shl .u32 1 (IntKind.u64.wrap (x11_10))) - 1) % 4294967296))) != 0)) else (flywheelref10_chunk.j4 k2 a0 a1 x6_2 x10_10 x11_10 x12_2 (wrap64 (Go.bits .and .u32 (shr .u32 a0 (ji14)) (((shl .u32 1 (IntKind.u64.wrap (x11_10))) - 1) % 4294967296))) false))) else (none)) else (none)) = some (r1, r2) := by first | (rw [hji14] at H; exact H) | (simp only [hji14] at H ⊢; exact H)
       by_cases c15 : 0 ≤ (ji14)
       ·rw [if_pos c15] at H
        have c15b0 := eq_true c15
        have c15b1 : decide (0 ≤ (ji14)) = true := decide_eq_true c15
        clear c15
        obtain ⟨ji16, hji16⟩ : ∃ j_ : Int, (shr .u32 a0 (ji14)) = j_ := ⟨_, rfl⟩
        replace H : (if 0 ≤ (IntKind.u64.wrap (x11_10)) then (if (wrap64 (Go.bits .and .u32 (ji16) (((shl .u32 1 (IntKind.u64.wrap (x11_10))) - 1) % 4294967296))) = 3 then (flywheelref10_chunk.j4 k2 a0 a1 x6_2 x10_10 x11_10 x12_2 (wrap64 (Go.bits .and .u32 (ji16) (((shl .u32 1 (IntKind.u64.wrap (x11_10))) - 1) % 4294967296))) true) else (if x12_2 ≥ a1 then (flywheelref10_chunk.j4 k2 a0 a1 x6_2 x10_10 x11_10 x12_2 (wrap64 (Go.bits .and .u32 (ji16) (((shl .u32 1 (IntKind.u64.wrap (x11_10))) - 1) % 4294967296))) ((wrap64 (Go.bits .and .u32 (ji16) (((shl .u32 1 (IntKind.u64.wrap (x11_10))) - 1) % 4294967296))) != 0)) else (flywheelref10_chunk.j4 k2 a0 a1 x6_2 x10_10 x11_10 x12_2 (wrap64 (Go.bits .and .u32 (ji16) (((shl .u32 1 (IntKind.u64.wrap (x11_10))) - 1) % 4294967296))) false))) else (none)) = some (r1, r2) := by first | (rw [hji16] at H; exact H) | (simp only [hji16] at H ⊢; exact H)
        have hji16_ : (a0 / 2 ^ min (ji14).toNat 32) = ji16 := hji16
        have hji16z : (ji14) ≤ 32 → (a0 / 2 ^ (ji14).toNat) = ji16 := shr_small hji16
        obtain ⟨ji17, hji17⟩ : ∃ j_ : Int, (IntKind.u64.wrap (x11_10)) = j_ := ⟨_, rfl⟩
        replace H : (if 0 ≤ (ji17) then (if (wrap64 (Go.bits .and .u32 (ji16) (((shl .u32 1 (ji17)) - 1) % 4294967296))) = 3 then (flywheelref10_chunk.j4 k2 a0 a1 x6_2 x10_10 x11_10 x12_2 (wrap64 (Go.bits .and .u32 (ji16) (((shl .u32 1 (ji17)) - 1) % 4294967296))) true) else (if x12_2 ≥ a1 then (flywheelref10_chunk.j4 k2 a0 a1 x6_2 x10_10 x11_10 x12_2 (wrap64 (Go.bits .and .u32 (ji16) (((shl .u32 1 (ji17)) - 1) % 4294967296))) ((wrap64 (Go.bits .and .u32 (ji16) (((shl .u32 1 (ji17)) - 1) % 4294967296))) != 0)) else (flywheelref10_chunk.j4 k2 a0 a1 x6_2 x10_10 x11_10 x12_2 (wrap64 (Go.bits .and .u32 (ji16) (((shl .u32 1 (ji17)) - 1) % 4294967296))) false))) else (none)) = some (r1, r2) := by first | (rw [hji17] at H; exact H) | (simp only [hji17] at H ⊢; exact H)
        by_cases c18 : 0 ≤ (ji17)
        ·rw [if_pos c18] at H
         have c18b0 := eq_true c18
         have c18b1 : decide (0 ≤ (ji17)) = true := decide_eq_true c18
         clear c18
         obtain ⟨ji19, hji19⟩ : ∃ j_ : Int, (shl .u32 1 (ji17)) = j_ := ⟨_, rfl⟩
         replace H : (if (wrap64 (Go.bits .and .u32 (ji16) (((ji19) - 1) % 4294967296))) = 3 then (flywheelref10_chunk.j4 k2 a0 a1 x6_2 x10_10 x11_10 x12_2 (wrap64 (Go.bits .and .u32 (ji16) (((ji19) - 1) % 4294967296))) true) else (if x12_2 ≥ a1 then (flywheelref10_chunk.j4 k2 a0 a1 x6_2 x10_10 x11_10 x12_2 (wrap64 (Go.bits .and .u32 (ji16) (((ji19) - 1) % 4294967296))) ((wrap64 (Go.bits .and .u32 (ji16) (((ji19) - 1) % 4294967296))) != 0)) else (flywheelref10_chunk.j4 k2 a0 a1 x6_2 x10_10 x11_10 x12_2 (wrap64 (Go.bits .and .u32 (ji16) (((ji19) - 1) % 4294967296))) false))) = some (r1, r2) := by first | (rw [hji19] at H; exact H) | (simp only [hji19] at H ⊢; exact H)
         have hji19_ : (IntKind.u32.wrap (1 * 2 ^ min (ji17).toNat 32)) = ji19 := hji19
         have hji19z : (ji17) ≤ 32 → (IntKind.u32.wrap (1 * 2 ^ (ji17).toNat)) = ji19 := shl_small hji19
         have hji19u : (IntKind.u32.wrap (2 ^ min (ji17).toNat 32)) = ji19 := by have h_ := hji19_; rw [Int.one_mul] at h_; exact h_
         have hji19v : (ji17) ≤ 32 → (IntKind.u32.wrap (2 ^ (ji17).toNat)) = ji19 := fun hle_ => by have h_ := hji19z hle_; rw [Int.one_mul] at h_; exact h_
         have HC20 := Aside0.mk H
         clear H
         go_upto_region 18 with (fail)
         go_cut [77] (fun v77 wc => ∃ (kq : Nat) (x77_19 : Bool), v77 = .bool x77_19 ∧ Aside0 (flywheelref10_chunk.j4 kq a0 a1 x6_2 x10_10 x11_10 x12_2 (wrap64 (Go.bits .and .u32 (ji16) (((ji19) - 1) % 4294967296))) x77_19 = some (r1, r2)) ∧ Aside0 (kq ≤ k2) ∧ Aside0 (Kd.R (Kd.int .i64) 3 wc w.heap.size (fun _ => True) u6 x6_2) ∧ Aside0 (Below w.heap.size w wc))
         case first =>
          have H := HC20.out
          clear HC20
          by_cases c21 : (wrap64 (Go.bits .and .u32 (ji16) (((ji19) - 1) % 4294967296))) = 3
          ·rw [if_pos c21] at H
           have c21b0 : ((wrap64 (Go.bits .and .u32 (ji16) (((ji19) - 1) % 4294967296))) == 3) = true := beq_iff_eq.mpr c21
           have c21b1 : ((wrap64 (Go.bits .and .u32 (ji16) (((ji19) - 1) % 4294967296))) != 3) = false := bne_eq_false_iff_eq.mpr c21
           clear c21
           (first | rw [c21b0] | (simp only [i64_w, i32_w]; rw [c21b0]) | skip)
           have H' := Aside0.mk H
           clear H
           go_wp2
           go_meet
           case rel => exact ⟨_, (true), (by first | rfl | (simp; done) | (simp [*]; done)), H', ⟨by have := HJ10.out; have := HK2.out; first | omega | exact Nat.le_refl _⟩, ⟨by (with_reducible repeat (first | apply Kd.R_alloc | apply Kd.R_drewN | apply Kd.R_drew)); exact HO_6.out⟩, ⟨by repeat (first | (with_reducible first | exact HB.out | apply below_alloc | apply pw_below_drewN | apply below_drew1) | exact HB.out)⟩⟩
          ·rw [if_neg c21] at H
           have c21b0 : ((wrap64 (Go.bits .and .u32 (ji16) (((ji19) - 1) % 4294967296))) == 3) = false := beq_eq_false_iff_ne.mpr c21
           have c21b1 : ((wrap64 (Go.bits .and .u32 (ji16) (((ji19) - 1) % 4294967296))) != 3) = true := bne_iff_ne.mpr c21
           (first | rw [c21b0] | (simp only [i64_w, i32_w]; rw [c21b0]) | skip)
           by_cases c22 : x12_2 ≥ a1
           ·rw [if_pos c22] at H
            have c22b0 : decide (a1 ≤ x12_2) = true := decide_eq_true c22
            clear c22
            have H' := Aside0.mk H
            clear H
            go_wp2
            go_meet
            case rel => exact ⟨_, (((wrap64 (Go.bits .and .u32 (ji16) (((ji19) - 1) % 4294967296))) != 0)), (by first | rfl | (simp; done) | (simp only [← hji16, ← hji19] <;> (first | rfl | simp)) | (simp [*]; done)), H', ⟨by have := HJ10.out; have := HK2.out; first | omega | exact Nat.le_refl _⟩, ⟨by (with_reducible repeat (first | apply Kd.R_alloc | apply Kd.R_drewN | apply Kd.R_drew)); exact HO_6.out⟩, ⟨by repeat (first | (with_reducible first | exact HB.out | apply below_alloc | apply pw_below_drewN | apply below_drew1) | exact HB.out)⟩⟩
           ·rw [if_neg c22] at H
            have c22b0 : decide (a1 ≤ x12_2) = false := decide_eq_false c22
            clear c22
            have H' := Aside0.mk H
            clear H
            go_wp2
            go_meet
            case rel => exact ⟨_, (false), (by first | rfl | (simp; done) | (simp [*]; done)), H', ⟨by have := HJ10.out; have := HK2.out; first | omega | exact Nat.le_refl _⟩, ⟨by (with_reducible repeat (first | apply Kd.R_alloc | apply Kd.R_drewN | apply Kd.R_drew)); exact HO_6.out⟩, ⟨by repeat (first | (with_reducible first | exact HB.out | apply below_alloc | apply pw_below_drewN | apply below_drew1) | exact HB.out)⟩⟩
         case rest =>
          clear HC20
          try clear c1
          try clear c2
          try clear p2
          try clear c3
          try clear c3b0
          try clear c3b1
          try clear c5
          try clear c5b0
          try clear c5b1
          try clear c6
          try clear p6
          try clear c7
          try clear c7b0
          try clear c8
          try clear c8b0
          try clear c9
          try clear c12
          try clear c12b0
          try clear c12b1
          try clear c13
          try clear c13b0
          try clear c15
          try clear c15b0
          try clear c15b1
          try clear c18
          try clear c18b0
          try clear c18b1
          try clear c21
          try clear c21b0
          try clear c21b1
          try clear c22
          try clear c22b0
          try clear p2
          try clear p6
          obtain ⟨kq, x77_19, rfl, HA, HJ19, HO_6, HB⟩ := hcut
          cases kq with
          | zero => exact absurd HA.out (by simp [flywheelref10_chunk.j4])
          | succ kj19 =>
           have H := HA.out
           clear HA
           simp only [flywheelref10_chunk.j4] at H
           by_cases c23 : x77_19 = true
           ·subst c23
            have H1 : (some (([] : List Int), 100)) = some (r1, r2) := by rw [if_pos rfl] at H; exact H
            clear H
            have H := H1
            clear H1
            simp only [Option.some.injEq, Prod.mk.injEq] at H
            obtain ⟨rfl, rfl⟩ := H
            go_wp2
            go_ret2
            exact ⟨_, by first | rfl | (simp [errW_none, errW_some] <;> rfl) | (simp only [← hji14, ← hji16, ← hji17, ← hji19]; first | rfl | (simp [errW_none, errW_some] <;> rfl)) | (simp [*, errW_none, errW_some] <;> rfl), by first | exact Kd.R_nil _ _ _ _ _ | exact Kd.N_nil _ _ _ _ _ | exact Kd.V_nil _ _ _ _ _ | exact Kd.Q_nil _ _ _ _ _ | exact Kd.S_nil _ _ _ _ _, by repeat (first | (with_reducible first | exact HB.out | apply below_alloc | apply pw_below_drewN | apply below_drew1) | exact HB.out)⟩
           ·replace c23 := Bool.eq_false_iff.mpr c23
            subst c23
            have H1 : (if x12_2 < a1 then (if x6_2.length < 17592186044416 then (flywheelref10_chunk.l1 kj19 a0 a1 (x6_2 ++ [(wrap64 (Go.bits .and .u32 (ji16) (((ji19) - 1) % 4294967296)))]) x10_10 x11_10 (wrap64 (x12_2 + 1))) else (none)) else (flywheelref10_chunk.l1 kj19 a0 a1 x6_2 x10_10 x11_10 (wrap64 (x12_2 + 1)))) = some (r1, r2) := by rw [if_neg (show ¬ (false = true) by decide)] at H; exact H
            clear H
            have H := H1
            clear H1
            by_cases c24 : x12_2 < a1
            ·rw [if_pos c24] at H
             have c24b0 : decide (x12_2 < a1) = true := decide_eq_true c24
             clear c24
             by_cases c25 : x6_2.length < 17592186044416
             ·rw [if_pos c25] at H
              have LMc25 := Aside0.mk c25
              clear c25
              obtain ⟨y448, hy448⟩ : ∃ y_ : List Int, y_ = (x6_2 ++ [(wrap64 (Go.bits .and .u32 (ji16) (((ji19) - 1) % 4294967296)))]) := ⟨_, rfl⟩
              replace H : (flywheelref10_chunk.l1 kj19 a0 a1 y448 x10_10 x11_10 (wrap64 (x12_2 + 1))) = some (r1, r2) := by first | (rw [hy448]; with_reducible exact H) | (have H2_ := (Option.bind_some _ _).symm.trans H; rw [hy448]; with_reducible exact H2_) | (have H2_ := (Option.bind_some _ _).symm.trans H; with_reducible exact H2_) | with_reducible exact H | (rw [hy448]; exact H) | exact H
              have Ny448 := Aside0.mk hy448
              clear hy448
              have H' := Aside0.mk H
              clear H
              go_wp2_with (first | ((with_reducible refine gate_builtin (b := .append) (xs := #[.tmp 81, .tmp 83]) rfl ?_); at_builtin; refine Kd.R_append (Kd.int .i64) (w0 := w) w.heap.size rfl (.tmp 81) (.tmp 83) 24 3 (.int .i64 0) 8 rfl Try.underlying24 info3 rfl (by decide) (by omega) u6 x6_2 (wrap64 (Go.bits .and .u32 (ji16) (((ji19) - 1) % 4294967296))) [.int .i64 (wrap64 (Go.bits .and .u32 (ji16) (((ji19) - 1) % 4294967296)))] (fun _ => True) (fun _ => False) rfl rfl ?aP (fun _ hk => hk.elim) ?aF ?aO ?aB ?aS ?aL ?_; (case aP => exact rfl); (case aB => exact (by repeat (first | (with_reducible first | exact HB.out | apply below_alloc | apply pw_below_drewN | apply below_drew1) | exact HB.out))); (case aF => exact (fun _ _ => trivial)); (case aO => exact (by (with_reducible repeat (first | apply Kd.R_alloc | apply Kd.R_drewN | apply Kd.R_drew)); exact HO_6.out)); (case aS => exact (below_size (by repeat (first | (with_reducible first | exact HB.out | apply below_alloc | apply pw_below_drewN | apply below_drew1) | exact HB.out)))); (case aL => have := LMc25.out; omega); intro v449 w26 ho hb hg hat; rw [← Ny448.out] at ho; have n0_ := Aside0.mk (hb); have n1_ := Aside0.mk (ho); clear HB; clear HO_6; have HB := n0_; have HO450 := n1_; clear n0_ n1_; clear ho hb hg hat))
              go_roundg kj19
              case measure => have := HJ10.out; have := HK2.out; have := HJ19.out; omega
              case rel => exact ⟨(y448), (wrap64 (x12_2 + 1)), (by first | rfl | (simp; done) | (simp [*]; done)), H', ⟨by have := HJ10.out; have := HK2.out; have := HJ19.out; omega⟩, ⟨by (with_reducible repeat (first | apply Kd.R_alloc | apply Kd.R_drewN | apply Kd.R_drew)); exact HO450.out⟩, ⟨by repeat (first | (with_reducible first | exact HB.out | apply below_alloc | apply pw_below_drewN | apply below_drew1) | exact HB.out)⟩⟩
             ·rw [if_neg c25] at H
              exact absurd H (by simp)
            ·rw [if_neg c24] at H
             have c24b0 : decide (x12_2 < a1) = false := decide_eq_false c24
             clear c24
             have H' := Aside0.mk H
             clear H
             go_wp2
             go_roundg kj19
             case measure => have := HJ10.out; have := HK2.out; have := HJ19.out; omega
             case rel => exact ⟨(x6_2), (wrap64 (x12_2 + 1)), (by first | rfl | (simp; done) | (simp [*]; done)), H', ⟨by have := HJ10.out; have := HK2.out; have := HJ19.out; omega⟩, ⟨by (with_reducible repeat (first | apply Kd.R_alloc | apply Kd.R_drewN | apply Kd.R_drew)); exact HO_6.out⟩, ⟨by repeat (first | (with_reducible first | exact HB.out | apply below_alloc | apply pw_below_drewN | apply below_drew1) | exact HB.out)⟩⟩
        ·rw [if_neg c18] at H
         exact absurd H (by simp)
       ·rw [if_neg c15] at H
        exact absurd H (by simp)
      ·rw [if_neg c13] at H
       have c13b0 : decide (x12_2 < x10_10) = false := decide_eq_false c13
       clear c13
       simp only [Option.some.injEq, Prod.mk.injEq] at H
       obtain ⟨rfl, rfl⟩ := H
       go_wp2
       go_ret2
       exact ⟨_, by first | rfl | (simp [errW_none, errW_some] <;> rfl) | (simp [*, errW_none, errW_some] <;> rfl), by (with_reducible repeat (first | apply Kd.R_alloc | apply Kd.R_drewN | apply Kd.R_drew)); exact HO_6.out, by repeat (first | (with_reducible first | exact HB.out | apply below_alloc | apply pw_below_drewN | apply below_drew1) | exact HB.out)⟩
def flywheelref05_After_p.f (a0 : Int) (a1 : Int) (a2 : Int) : Option (Bool) := if a2 < 1 then (some false) else (if a2 > 32 then (some false) else (if a0 < 0 then (some false) else (if a1 < 0 then (some false) else (if 0 ≤ (IntKind.u64.wrap (a2)) then (if a0 ≥ (shl .i64 1 (IntKind.u64.wrap (a2))) then (some false) else (if a1 ≥ (shl .i64 1 (IntKind.u64.wrap (a2))) then (some false) else ((flywheelref05_Cut.f (wrap64 (a0 - a1)) a2).bind fun t539 => (if t539 ≥ 1 then (if 0 ≤ (IntKind.u64.wrap (wrap64 (a2 - 1))) then (some (decide (t539 ≤ (wrap64 ((shl .i64 1 (IntKind.u64.wrap (wrap64 (a2 - 1)))) - 1))))) else (none)) else (some false))))) else (none)))))
set_option maxHeartbeats 8000000 in
set_option maxRecDepth 100000 in
theorem flywheelref05_After_p.calls (a0 : Int) (a1 : Int) (a2 : Int) (r : Bool) (w : World) (h : flywheelref05_After_p.f a0 a1 a2 = some r) :
  Calls Try.prog 72 #[.int .i64 a0, .int .i64 a1, .int .i64 a2] w fun e w' => e = .returned (.bool r) ∧ Drawn0 w w' := by
 have H : (if a2 < 1 then (some false) else (if a2 > 32 then (some false) else (if a0 < 0 then (some false) else (if a1 < 0 then (some false) else (if 0 ≤ (IntKind.u64.wrap (a2)) then (if a0 ≥ (shl .i64 1 (IntKind.u64.wrap (a2))) then (some false) else (if a1 ≥ (shl .i64 1 (IntKind.u64.wrap (a2))) then (some false) else ((flywheelref05_Cut.f (wrap64 (a0 - a1)) a2).bind fun t539 => (if t539 ≥ 1 then (if 0 ≤ (IntKind.u64.wrap (wrap64 (a2 - 1))) then (some (decide (t539 ≤ (wrap64 ((shl .i64 1 (IntKind.u64.wrap (wrap64 (a2 - 1)))) - 1))))) else (none)) else (some false))))) else (none)))))) = some r := h
 clear h
 by_cases c4 : a2 < 1
 ·rw [if_pos c4] at H
  have c4b0 : decide (a2 < 1) = true := decide_eq_true c4
  clear c4
  obtain rfl := Option.some.inj H
  go_enter Try.func72, Try.ntmps72
  go_wp2
  go_ret
  exact ⟨by first | rfl | (simp; done) | (simp [*]; done), by repeat (first | exact Drawn0.refl _ | apply Drawn0.step)⟩
 ·rw [if_neg c4] at H
  have c4b0 : decide (a2 < 1) = false := decide_eq_false c4
  clear c4
  by_cases c5 : a2 > 32
  ·rw [if_pos c5] at H
   have c5b0 : decide (32 < a2) = true := decide_eq_true c5
   clear c5
   obtain rfl := Option.some.inj H
   go_enter Try.func72, Try.ntmps72
   go_wp2
   go_ret
   exact ⟨by first | rfl | (simp; done) | (simp [*]; done), by repeat (first | exact Drawn0.refl _ | apply Drawn0.step)⟩
  ·rw [if_neg c5] at H
   have c5b0 : decide (32 < a2) = false := decide_eq_false c5
   clear c5
   by_cases c6 : a0 < 0
   ·rw [if_pos c6] at H
    have c6b0 : decide (a0 < 0) = true := decide_eq_true c6
    clear c6
    obtain rfl := Option.some.inj H
    go_enter Try.func72, Try.ntmps72
    go_wp2
    go_ret
    exact ⟨by first | rfl | (simp; done) | (simp [*]; done), by repeat (first | exact Drawn0.refl _ | apply Drawn0.step)⟩
   ·rw [if_neg c6] at H
    have c6b0 : decide (a0 < 0) = false := decide_eq_false c6
    clear c6
    by_cases c7 : a1 < 0
    ·rw [if_pos c7] at H
     have c7b0 : decide (a1 < 0) = true := decide_eq_true c7
     clear c7
     obtain rfl := Option.some.inj H
     go_enter Try.func72, Try.ntmps72
     go_wp2
     go_ret
     exact ⟨by first | rfl | (simp; done) | (simp [*]; done), by repeat (first | exact Drawn0.refl _ | apply Drawn0.step)⟩
    ·rw [if_neg c7] at H
     have c7b0 : decide (a1 < 0) = false := decide_eq_false c7
     clear c7
     obtain ⟨ji8, hji8⟩ : ∃ j_ : Int, (IntKind.u64.wrap (a2)) = j_ := ⟨_, rfl⟩
     replace H : (if 0 ≤ (ji8) then (if a0 ≥ (shl .i64 1 (ji8)) then (some false) else (if a1 ≥ (shl .i64 1 (ji8)) then (some false) else ((flywheelref05_Cut.f (wrap64 (a0 - a1)) a2).bind fun t539 => (if t539 ≥ 1 then (if 0 ≤ (IntKind.u64.wrap (wrap64 (a2 - 1))) then (some (decide (t539 ≤ (wrap64 ((shl .i64 1 (IntKind.u64.wrap (wrap64 (a2 - 1)))) - 1))))) else (none)) else (some false))))) else (none)) = some r := by first | (rw [hji8] at H; exact H) | (simp only [hji8] at H ⊢; exact H)
     by_cases c9 : 0 ≤ (ji8)
     ·rw [if_pos c9] at H
      have c9b0 := eq_true c9
      have c9b1 : decide (0 ≤ (ji8)) = true := decide_eq_true c9
      clear c9
      obtain ⟨ji10, hji10⟩ : ∃ j_ : Int, (shl .i64 1 (ji8)) = j_ := ⟨_, rfl⟩
      replace H : (if a0 ≥ (ji10) then (some false) else (if a1 ≥ (ji10) then (some false) else ((flywheelref05_Cut.f (wrap64 (a0 - a1)) a2).bind fun t539 => (if t539 ≥ 1 then (if 0 ≤ (IntKind.u64.wrap (wrap64 (a2 - 1))) then (some (decide (t539 ≤ (wrap64 ((shl .i64 1 (IntKind.u64.wrap (wrap64 (a2 - 1)))) - 1))))) else (none)) else (some false))))) = some r := by first | (rw [hji10] at H; exact H) | (simp only [hji10] at H ⊢; exact H)
      have hji10_ : (IntKind.i64.wrap (1 * 2 ^ min (ji8).toNat 64)) = ji10 := hji10
      have hji10z : (ji8) ≤ 64 → (IntKind.i64.wrap (1 * 2 ^ (ji8).toNat)) = ji10 := shl_small hji10
      have hji10u : (IntKind.i64.wrap (2 ^ min (ji8).toNat 64)) = ji10 := by have h_ := hji10_; rw [Int.one_mul] at h_; exact h_
      have hji10v : (ji8) ≤ 64 → (IntKind.i64.wrap (2 ^ (ji8).toNat)) = ji10 := fun hle_ => by have h_ := hji10z hle_; rw [Int.one_mul] at h_; exact h_
      have hji10y : (wrap64 (1 * 2 ^ min (ji8).toNat 64)) = ji10 := (i64_w _).symm.trans hji10_
      have hji10x : (ji8) ≤ 64 → (wrap64 (1 * 2 ^ (ji8).toNat)) = ji10 := fun h_ => (i64_w _).symm.trans (hji10z h_)
      by_cases c11 : a0 ≥ (ji10)
      ·rw [if_pos c11] at H
       have c11b0 : decide ((ji10) ≤ a0) = true := decide_eq_true c11
       clear c11
       obtain rfl := Option.some.inj H
       go_enter Try.func72, Try.ntmps72
       go_wp2
       go_ret
       exact ⟨by first | rfl | (simp; done) | (simp only [← hji8, ← hji10] <;> (first | rfl | simp)) | (simp [*]; done), by repeat (first | exact Drawn0.refl _ | apply Drawn0.step)⟩
      ·rw [if_neg c11] at H
       have c11b0 : decide ((ji10) ≤ a0) = false := decide_eq_false c11
       clear c11
       have c12b0 := eq_true (of_decide_eq_true (by first | (with_reducible assumption) | assumption) : 0 ≤ (ji8))
       by_cases c13 : a1 ≥ (ji10)
       ·rw [if_pos c13] at H
        have c13b0 : decide ((ji10) ≤ a1) = true := decide_eq_true c13
        clear c13
        obtain rfl := Option.some.inj H
        go_enter Try.func72, Try.ntmps72
        go_wp2
        go_ret
        exact ⟨by first | rfl | (simp; done) | (simp only [← hji8, ← hji10] <;> (first | rfl | simp)) | (simp [*]; done), by repeat (first | exact Drawn0.refl _ | apply Drawn0.step)⟩
       ·rw [if_neg c13] at H
        have c13b0 : decide ((ji10) ≤ a1) = false := decide_eq_false c13
        clear c13
        replace H := Option.bind_eq_some_iff.mp H
        obtain ⟨t539, A140, H⟩ := H
        replace H : (if t539 ≥ 1 then (if 0 ≤ (IntKind.u64.wrap (wrap64 (a2 - 1))) then (some (decide (t539 ≤ (wrap64 ((shl .i64 1 (IntKind.u64.wrap (wrap64 (a2 - 1)))) - 1))))) else (none)) else (some false)) = some r := H
        have A14 := Aside0.mk A140
        clear A140
        by_cases c15 : t539 ≥ 1
        ·rw [if_pos c15] at H
         have c15b0 : decide (1 ≤ t539) = true := decide_eq_true c15
         clear c15
         obtain ⟨ji16, hji16⟩ : ∃ j_ : Int, (IntKind.u64.wrap (wrap64 (a2 - 1))) = j_ := ⟨_, rfl⟩
         replace H : (if 0 ≤ (ji16) then (some (decide (t539 ≤ (wrap64 ((shl .i64 1 (ji16)) - 1))))) else (none)) = some r := by first | (rw [hji16] at H; exact H) | (simp only [hji16] at H ⊢; exact H)
         (try rw [hji16] at A14)
         by_cases c17 : 0 ≤ (ji16)
         ·rw [if_pos c17] at H
          have c17b0 := eq_true c17
          have c17b1 : decide (0 ≤ (ji16)) = true := decide_eq_true c17
          clear c17
          obtain ⟨ji18, hji18⟩ : ∃ j_ : Int, (shl .i64 1 (ji16)) = j_ := ⟨_, rfl⟩
          replace H : (some (decide (t539 ≤ (wrap64 ((ji18) - 1))))) = some r := by first | (rw [hji18] at H; exact H) | (simp only [hji18] at H ⊢; exact H)
          (try rw [hji18] at A14)
          have hji18_ : (IntKind.i64.wrap (1 * 2 ^ min (ji16).toNat 64)) = ji18 := hji18
          have hji18z : (ji16) ≤ 64 → (IntKind.i64.wrap (1 * 2 ^ (ji16).toNat)) = ji18 := shl_small hji18
          have hji18u : (IntKind.i64.wrap (2 ^ min (ji16).toNat 64)) = ji18 := by have h_ := hji18_; rw [Int.one_mul] at h_; exact h_
          have hji18v : (ji16) ≤ 64 → (IntKind.i64.wrap (2 ^ (ji16).toNat)) = ji18 := fun hle_ => by have h_ := hji18z hle_; rw [Int.one_mul] at h_; exact h_
          have hji18y : (wrap64 (1 * 2 ^ min (ji16).toNat 64)) = ji18 := (i64_w _).symm.trans hji18_
          have hji18x : (ji16) ≤ 64 → (wrap64 (1 * 2 ^ (ji16).toNat)) = ji18 := fun h_ => (i64_w _).symm.trans (hji18z h_)
          obtain rfl := Option.some.inj H
          go_enter Try.func72, Try.ntmps72
          go_wp2_with (first | ((with_reducible refine gate_callee (f := 50) rfl ?_); refine goesL_ (some 40) rfl rfl Try.func50 (by kernel_rfl) rfl #[.int .i64 (wrap64 (a0 - a1)), .int .i64 a2] rfl (by (try simp only [List.map_toArray, List.map_cons, List.map_nil]); first | done | rfl | (simp only [List.length_drop, List.length_take]; rfl)) ?_; (with_reducible refine (flywheelref05_Cut.calls (wrap64 (a0 - a1)) a2 t539 _ A14.out).mono ?_); rintro e w' ⟨rfl, ⟨nd, rfl⟩⟩; refine ⟨_, rfl, ?_⟩))
          go_ret
          exact ⟨by first | rfl | (simp; done) | (simp only [← hji8, ← hji10, ← hji16, ← hji18] <;> (first | rfl | simp)) | (simp [*]; done), by repeat (first | exact Drawn0.refl _ | apply Drawn0.step)⟩
         ·rw [if_neg c17] at H
          exact absurd H (by simp)
        ·rw [if_neg c15] at H
         have c15b0 : decide (1 ≤ t539) = false := decide_eq_false c15
         clear c15
         obtain rfl := Option.some.inj H
         go_enter Try.func72, Try.ntmps72
         go_wp2_with (first | ((with_reducible refine gate_callee (f := 50) rfl ?_); refine goesL_ (some 40) rfl rfl Try.func50 (by kernel_rfl) rfl #[.int .i64 (wrap64 (a0 - a1)), .int .i64 a2] rfl (by (try simp only [List.map_toArray, List.map_cons, List.map_nil]); first | done | rfl | (simp only [List.length_drop, List.length_take]; rfl)) ?_; (with_reducible refine (flywheelref05_Cut.calls (wrap64 (a0 - a1)) a2 t539 _ A14.out).mono ?_); rintro e w' ⟨rfl, ⟨nd, rfl⟩⟩; refine ⟨_, rfl, ?_⟩))
         go_ret
         exact ⟨by first | rfl | (simp; done) | (simp only [← hji8, ← hji10] <;> (first | rfl | simp)) | (simp [*]; done), by repeat (first | exact Drawn0.refl _ | apply Drawn0.step)⟩
     ·rw [if_neg c9] at H
      exact absurd H (by simp)
def flywheelref05_After.f (a0 : Int) (a1 : Int) (a2 : Int) : Option (Bool) := if a2 = 16 then (some (B.after16 a0 a1)) else (none)
theorem flywheelref05_After.told (a0 a1 : Int) : flywheelref05_After_p.f a0 a1 16 = some (B.after16 a0 a1) := by
 have hu : IntKind.u64.wrap 16 = 16 := by rw [IntKind.wrap_u64]; omega
 have hu2 : IntKind.u64.wrap (wrap64 (16 - 1)) = 15 := by rw [show wrap64 (16 - 1) = 15 from by unfold wrap64; omega, IntKind.wrap_u64]; omega
 have e : shl .i64 1 16 = 65536 := by rfl
 have e15 : wrap64 (shl .i64 1 15 - 1) = 32767 := by rw [show shl .i64 1 15 = 32768 from rfl]; unfold wrap64; omega
 unfold flywheelref05_After_p.f B.after16 flywheelref05_Cut.f
 rw [hu, hu2, e, e15]
 rw [if_neg (by omega), if_neg (by omega)]
 by_cases h1 : a0 < 0
 ·have h1' : ¬ 0 ≤ a0 := by omega
  simp [h1, h1']
 have h1' : 0 ≤ a0 := by omega
 by_cases h2 : a1 < 0
 ·have h2' : ¬ 0 ≤ a1 := by omega
  simp [h1, h2, h2']
 have h2' : 0 ≤ a1 := by omega
 by_cases h3 : 65536 ≤ a0
 ·have h3' : ¬ a0 < 65536 := by omega
  simp [h1, h2, h3, h3']
 have h3' : a0 < 65536 := by omega
 by_cases h4 : 65536 ≤ a1
 ·have h4' : ¬ a1 < 65536 := by omega
  simp [h1, h2, h3, h4, h4']
 have h4' : a1 < 65536 := by omega
 have hw : wrap64 (a0 - a1) = a0 - a1 := by unfold wrap64; omega
 rw [hw]
 by_cases h5 : (a0 - a1) % 65536 ≥ 1
 ·have h5' : 1 ≤ (a0 - a1) % 65536 := h5
  have h6 : decide ((a0 - a1) % 65536 ≤ 32767) = decide ((a0 - a1) % 65536 < 32768) := by rw [decide_eq_decide]; omega
  simp [h1, h2, h3, h4, h5, h1', h2', h3', h4', h5', h6]
 ·have h5' : ¬ 1 ≤ (a0 - a1) % 65536 := h5
  simp [h1, h2, h3, h4, h5, h1', h2', h3', h4', h5']
theorem flywheelref05_After.calls (a0 : Int) (a1 : Int) (a2 : Int) (r : Bool) (w : World) (h : flywheelref05_After.f a0 a1 a2 = some r) :
  Calls Try.prog 72 #[.int .i64 a0, .int .i64 a1, .int .i64 a2] w fun e w' => e = .returned (.bool r) ∧ Drawn0 w w' := by
 unfold flywheelref05_After.f at h
 by_cases h2 : a2 = 16
 ·subst h2
  rw [if_pos rfl] at h
  exact flywheelref05_After_p.calls a0 a1 16 r w ((flywheelref05_After.told a0 a1).trans h)
 ·rw [if_neg h2] at h; cases h
def flywheelref11_Good.f (l0 : List Int) : Option (Bool) := some (B.goodB l0)
theorem quietD {P : Program} {f : FuncId} {args : Array Value} {w W : World} {v : Value} (hW : ∃ n, W = w.drewN n) (h : Calls P f args W fun e w' => e = .returned v ∧ Drawn0 W w') :
  Calls P f args W fun e w'' => e = .returned v ∧ ∃ m, w'' = w.drewN m :=
 h.mono fun _ _ ⟨he, hd⟩ => ⟨he, by obtain ⟨n, rfl⟩ := hW; obtain ⟨m, hm⟩ := hd.out; exact ⟨n + m, by rw [hm, World.drewN_drewN]⟩⟩
theorem goodB_at (l : List Int) (h0 : 0 < l.length) : B.goodB l = (decide (0 ≤ rd l 0) && (decide (rd l 0 ≤ 65535) && (decide (l.length ≤ 4096) && B.goodTail (rd l 0) (rd l 0) (l.drop 1)))) := by
 cases l with
 | nil => simp at h0
 | cons n t =>
  have e : decide (t.length < 4096) = decide ((n :: t).length ≤ 4096) := by rw [decide_eq_decide]; simp; omega
  simp only [B.goodB, e]
  rfl
theorem goodTail_at (l : List Int) (i : Nat) (l0 p : Int) (h : i < l.length) : B.goodTail l0 p (l.drop i) = (B.after16 (rd l i) p && (B.after16 (rd l i) l0 && B.goodTail l0 (rd l i) (l.drop (i + 1)))) := by
 rw [List.drop_eq_getElem_cons h]
 have e : rd l (i : Int) = l[i] := by simp [rd, List.getD_eq_getElem?_getD, List.getElem?_eq_getElem h]
 rw [e]
 rfl
set_option maxHeartbeats 2000000 in
theorem flywheelref11_Good.calls (A0 : Option Addr) (c0 : Nat) (l0 : List Int) (r : Bool) (w : World) (hr0 : Kd.C (Kd.int .i64) w A0 l0.length l0) (hc0 : l0.length ≤ c0) (h : flywheelref11_Good.f l0 = some r) :
  Calls Try.prog 55 #[.slice A0 l0.length c0] w fun e w' => e = .returned (.bool r) ∧ Drawn0 w w' := by
 obtain rfl := Option.some.inj h
 have HR := Aside0.mk hr0
 clear hr0 h
 by_cases hl0 : (l0.length : Int) < 1
 ·have hd : decide ((l0.length : Int) < 1) = true := decide_eq_true hl0
  have HX : Aside0 (l0 = []) := ⟨List.eq_nil_of_length_eq_zero (by omega)⟩
  clear hl0
  go_enter Try.func55, Try.ntmps55
  go_wp2
  go_ret
  rw [HX.out]
  exact ⟨rfl, Drawn0.refl _⟩
 have hd : decide ((l0.length : Int) < 1) = false := decide_eq_false hl0
 have HG := Aside0.mk (goodB_at l0 (by omega))
 by_cases hl1 : 4096 < (l0.length : Int)
 ·have hd1 : decide (4096 < (l0.length : Int)) = true := decide_eq_true hl1
  have HX : Aside0 (B.goodB l0 = false) := ⟨by rw [HG.out]; simp [show ¬ l0.length ≤ 4096 by omega]⟩
  clear hl0 hl1
  go_enter Try.func55, Try.ntmps55
  go_wp2
  go_ret
  rw [HX.out]
  exact ⟨rfl, Drawn0.refl _⟩
 have hd1 : decide (4096 < (l0.length : Int)) = false := decide_eq_false hl1
 obtain ⟨ad, hA, hx0⟩ := Kd.at_int HR.out 0 (by omega) (by omega)
 subst hA
 have hx00 : w.cell? ad = some (.int .i64 (rd l0 0)) := by rw [show (0 : Int).toNat = 0 from rfl, Go.Addr.add_zero'] at hx0; exact hx0
 obtain ⟨R0, hR0⟩ : ∃ R0, rd l0 0 = R0 := ⟨_, rfl⟩
 rw [hR0] at hx0 hx00 HG
 have HR0 := Aside0.mk hR0
 have hpos : 0 < (l0.length : Int) := by omega
 have hle : (l0.length : Int) ≤ 4096 := by omega
 have hle4 : decide (l0.length ≤ 4096) = true := decide_eq_true (by omega)
 rw [hle4] at HG
 clear hR0 hl0 hl1 hle4
 by_cases c1 : R0 < 0
 ·have hd2 : decide (R0 < 0) = true := decide_eq_true c1
  have HX : Aside0 (B.goodB l0 = false) := ⟨by rw [HG.out]; simp [show ¬ 0 ≤ R0 by omega]⟩
  clear c1
  go_enter Try.func55, Try.ntmps55
  go_wp2
  go_ret
  rw [HX.out]
  exact ⟨rfl, Drawn0.refl _⟩
 have hd2 : decide (R0 < 0) = false := decide_eq_false c1
 by_cases c2 : 65535 < R0
 ·have hd3 : decide (65535 < R0) = true := decide_eq_true c2
  have HX : Aside0 (B.goodB l0 = false) := ⟨by rw [HG.out]; simp [show ¬ R0 ≤ 65535 by omega]⟩
  clear c1 c2
  go_enter Try.func55, Try.ntmps55
  go_wp2
  go_ret
  rw [HX.out]
  exact ⟨rfl, Drawn0.refl _⟩
 have hd3 : decide (65535 < R0) = false := decide_eq_false c2
 have hb0 : 0 ≤ R0 := by omega
 have hb1 : R0 ≤ 65535 := by omega
 have HG2 : Aside0 (B.goodB l0 = B.goodTail R0 R0 (l0.drop 1)) := ⟨by rw [HG.out]; simp [hb0, hb1]⟩
 clear HG c1 c2
 go_enter Try.func55, Try.ntmps55
 go_wp2
 go_loopw [3] (fun iv wr => ∃ i : Int, iv = .int .i64 i ∧ (1 ≤ i ∧ i ≤ l0.length) ∧ (0 ≤ rd l0 (i - 1) ∧ rd l0 (i - 1) ≤ 65535) ∧ (rd l0 (i - 1) = R0 ∧ i = 1 ∨ B.after16 (rd l0 (i - 1)) R0 = true) ∧ B.goodB l0 = B.goodTail R0 (rd l0 (i - 1)) (l0.drop i.toNat) ∧ Drawn0 w wr) (fun iv _ => (l0.length - intOf iv).toNat)
 case atStart => exact ⟨1, rfl, ⟨by omega, by omega⟩, ⟨by show 0 ≤ rd l0 0; rw [HR0.out]; omega, by show rd l0 0 ≤ _; rw [HR0.out]; omega⟩, .inl ⟨HR0.out, rfl⟩, by show _ = B.goodTail R0 (rd l0 0) _; rw [HR0.out]; exact HG2.out, Drawn0.refl _⟩
 case round =>
  obtain ⟨i, rfl, ⟨hi0, hi1⟩, ⟨hp0, hp1⟩, hz, hgd, hD⟩ := hrel
  have HGD := Aside0.mk hgd
  have HZ := Aside0.mk hz
  clear hgd hz HG2
  have hcell : ∀ a : Addr, wr.cell? a = w.cell? a := by obtain ⟨nd, rfl⟩ := hD.out; intro a; rfl
  by_cases hlt : i < l0.length
  ·obtain ⟨ad1, hA1, hx1⟩ := Kd.at_int HR.out i (by omega) (by omega)
   obtain rfl : ad = ad1 := by injection hA1
   obtain ⟨ad2, hA2, hx2⟩ := Kd.at_int HR.out (i - 1) (by omega) (by omega)
   obtain rfl : ad = ad2 := by injection hA2
   have hgt := goodTail_at l0 i.toNat R0 (rd l0 (i - 1)) (by omega)
   rw [show ((i.toNat : Nat) : Int) = i by omega] at hgt
   rw [← hcell] at hx1 hx2 hx00
   clear hcell hx0
   obtain ⟨X, hX⟩ : ∃ X, rd l0 i = X := ⟨_, rfl⟩
   obtain ⟨Y, hY⟩ : ∃ Y, rd l0 (i - 1) = Y := ⟨_, rfl⟩
   rw [hX] at hgt hx1
   rw [hY] at hgt hx2 HGD HZ hp0 hp1
   have HGT := Aside0.mk hgt
   have HX := Aside0.mk hX
   clear hgt hX hY
   obtain ⟨j, hj⟩ : ∃ j, i - 1 = j := ⟨_, rfl⟩
   rw [hj] at hx2
   have hjw : IntKind.i64.wrap (i - 1) = j := by rw [IntKind.wrap_i64, ← hj]; omega
   have hj0 : 0 ≤ j := by omega
   have hj1 : j < (l0.length : Int) := by omega
   by_cases a1 : B.after16 X Y = true
   ·have hXb := (B.after16_iff X Y).mp a1
    have hX0 : 0 ≤ X := hXb.1.1
    have hX1 : X < 65536 := hXb.1.2
    have HXb := Aside0.mk hXb
    have HC := Aside0.mk (show flywheelref05_After.f X Y 16 = some true from by unfold flywheelref05_After.f; rw [if_pos rfl, a1])
    have HA1 := Aside0.mk a1
    obtain ⟨Z, hZ⟩ : ∃ Z, X - R0 = Z := ⟨_, rfl⟩
    have HZZ := Aside0.mk hZ
    have hZw : IntKind.i64.wrap (X - R0) = Z := by rw [IntKind.wrap_i64, ← hZ]; omega
    have HC2 := Aside0.mk (show flywheelref05_Cut.f Z 16 = some (Z % 65536) from rfl)
    obtain ⟨D, hD'⟩ : ∃ D, Z % 65536 = D := ⟨_, rfl⟩
    rw [hD'] at HC2
    have HDD := Aside0.mk hD'
    clear a1 hj hXb hZ hD'
    by_cases c3 : 32768 ≤ D
    ·have hd4 : decide (32768 ≤ D) = true := decide_eq_true c3
     have HN : Aside0 (B.after16 X R0 = false) := ⟨by rw [← Bool.not_eq_true, B.after16_iff]; have := HZZ.out; have := HDD.out; omega⟩
     go_wp2
     go_quiet ((first | (go_at_call 72; exact quietD ⟨_, rfl⟩ (flywheelref05_After.calls X Y 16 true _ HC.out)) | (go_at_call 50; exact quietD ⟨_, rfl⟩ (flywheelref05_Cut.calls Z 16 D _ HC2.out))))
     go_wp2
     go_ret
     rw [HGD.out, HGT.out, HN.out]
     exact ⟨by simp, hD.step _⟩
    ·have hd4 : decide (32768 ≤ D) = false := decide_eq_false c3
     have HN : Aside0 (B.after16 X R0 = true) := ⟨by
      rw [B.after16_iff]
      have h1 := HZZ.out
      have h2 := HDD.out
      have h3 := HXb.out
      rcases HZ.out with ⟨h4, _⟩ | h4
      ·omega
      ·rw [B.after16_iff] at h4; omega⟩
     go_wp2
     go_quiet ((first | (go_at_call 72; exact quietD ⟨_, rfl⟩ (flywheelref05_After.calls X Y 16 true _ HC.out)) | (go_at_call 50; exact quietD ⟨_, rfl⟩ (flywheelref05_Cut.calls Z 16 D _ HC2.out))))
     go_wp2
     go_roundw
     case rel =>
      refine ⟨i + 1, rfl, ⟨by omega, by omega⟩, ?_, .inr ?_, ?_, hD.step _⟩
      ·rw [show i + 1 - 1 = i by omega, HX.out]; omega
      ·rw [show i + 1 - 1 = i by omega, HX.out]; exact HN.out
      ·rw [HGD.out, HGT.out, HN.out, HA1.out, show i + 1 - 1 = i by omega, HX.out, show (i + 1).toNat = i.toNat + 1 by omega]; simp
     case measure => simp [intOf]; omega
   ·have a1' : B.after16 X Y = false := by simpa using a1
    have HC := Aside0.mk (show flywheelref05_After.f X Y 16 = some false from by unfold flywheelref05_After.f; rw [if_pos rfl, a1'])
    have HN := Aside0.mk a1'
    clear a1 hj a1'
    go_wp2
    go_quiet ((first | (go_at_call 72; exact quietD ⟨_, rfl⟩ (flywheelref05_After.calls X Y 16 false _ HC.out))))
    go_wp2
    go_ret
    rw [HGD.out, HGT.out, HN.out]
    exact ⟨by simp, hD.step _⟩
  ·have HE : Aside0 (l0.drop i.toNat = []) := ⟨List.drop_eq_nil_of_le (by omega)⟩
   go_wp2
   go_ret
   rw [HGD.out, HE.out]
   exact ⟨by simp [B.goodTail], hD⟩
mutual
def flywheelref11_Decode.l0 : Nat → ByteArray → Int → Bool → Int → Int → List Int → Option (Int × Int × List Int × Int)
 | 0, _, _, _, _, _, _ => none
 | k + 1, x545000, x545001, x545002, x554000, x554001, x554002 => (flywheelref06_Reader_Left.f x545000 x545001 x545002).bind fun bt554 => (if bt554.1 > 0 then ((flywheelref06_Reader_Get.f k bt554.2.1 bt554.2.2.1 bt554.2.2.2 16).bind fun bt558 => ((flywheelref06_Reader_Get.f k bt558.2.1 bt558.2.2.1 bt558.2.2.2 16).bind fun bt562 => (if x554002.length < 17592186044416 then (flywheelref11_Decode.l1 k (wrap64 (bt558.1)) bt562.1 0 bt562.2.1 bt562.2.2.1 bt562.2.2.2 x554000 x554001 (x554002 ++ [wrap64 (bt558.1)])) else (none)))) else (if (x554002.length : Int) > 4096 then (some (0, 0, ([] : List Int), 3)) else ((flywheelref11_Good.f x554002).bind fun t572 => (if t572 = true then (some (x554000, x554001, x554002, 0)) else (some (0, 0, ([] : List Int), 110))))))
def flywheelref11_Decode.l1 : Nat → Int → Int → Int → ByteArray → Int → Bool → Int → Int → List Int → Option (Int × Int × List Int × Int)
 | 0, _, _, _, _, _, _, _, _, _ => none
 | k + 1, x6, x7, x8, x545000, x545001, x545002, x554000, x554001, x554002 => if x8 < 16 then (if 0 ≤ (IntKind.u64.wrap (x8)) then (if (Go.bits .and .u32 (shr .u32 x7 (IntKind.u64.wrap (x8))) 1) = 1 then (if x554002.length < 17592186044416 then (flywheelref11_Decode.l1 k x6 x7 (wrap64 (x8 + 1)) x545000 x545001 x545002 x554000 x554001 (x554002 ++ [Int.tmod (wrap64 ((wrap64 (x6 + x8)) + 1)) 65536])) else (none)) else (flywheelref11_Decode.l1 k x6 x7 (wrap64 (x8 + 1)) x545000 x545001 x545002 x554000 x554001 x554002)) else (none)) else (flywheelref11_Decode.l0 k x545000 x545001 x545002 x554000 x554001 x554002)
end
def flywheelref11_Decode.f (k : Nat) (a0 : ByteArray) : Option (Int × Int × List Int × Int) := if (a0.size : Int) > 65536 then (some (0, 0, ([] : List Int), 2)) else (if ((a0.size : Int) % 4) = 0 then (if (a0.size : Int) < 12 then (some (0, 0, ([] : List Int), 60)) else ((flywheelref06_Read.f a0).bind fun bt541 => ((flywheelref06_Reader_Get.f k bt541.1 bt541.2.1 bt541.2.2 32).bind fun bt545 => ((flywheelref06_Reader_Get.f k bt545.2.1 bt545.2.2.1 bt545.2.2.2 32).bind fun bt549 => (flywheelref11_Decode.l0 k bt549.2.1 bt549.2.2.1 bt549.2.2.2 bt545.1 bt549.1 ([] : List Int)))))) else (some (0, 0, ([] : List Int), 90)))
theorem flywheelref11_Decode.mono_l : ∀ k, (∀ y0 y1 y2 y3 y4 y5, LeO (flywheelref11_Decode.l0 k y0 y1 y2 y3 y4 y5) (flywheelref11_Decode.l0 (k + 1) y0 y1 y2 y3 y4 y5)) ∧ (∀ y0 y1 y2 y3 y4 y5 y6 y7 y8, LeO (flywheelref11_Decode.l1 k y0 y1 y2 y3 y4 y5 y6 y7 y8) (flywheelref11_Decode.l1 (k + 1) y0 y1 y2 y3 y4 y5 y6 y7 y8))
 | 0 => ⟨fun _ _ _ _ _ _ r h => by simp [flywheelref11_Decode.l0] at h, fun _ _ _ _ _ _ _ _ _ r h => by simp [flywheelref11_Decode.l1] at h⟩
 | k + 1 => by
  obtain ⟨ih0, ih1⟩ := flywheelref11_Decode.mono_l k
  refine ⟨?_, ?_⟩
  ·intro y0 y1 y2 y3 y4 y5
   unfold flywheelref11_Decode.l0
   repeat' first
   | (with_reducible exact ih0 _ _ _ _ _ _)
   | (with_reducible exact ih1 _ _ _ _ _ _ _ _ _)
   | (with_reducible exact flywheelref06_Reader_Get.mono _ _ _ _ _)
   | (with_reducible exact LeO.refl _)
   | (with_reducible exact LeO.none _)
   | (with_reducible refine LeO.ite ?_ ?_)
   | (with_reducible refine LeO.bind ?_ (fun _ => ?_))
   | exact ih0 _ _ _ _ _ _
   | exact ih1 _ _ _ _ _ _ _ _ _
   | exact flywheelref06_Reader_Get.mono _ _ _ _ _
   | exact LeO.none _
   | refine LeO.ite ?_ ?_
   | refine LeO.bind ?_ (fun _ => ?_)
  ·intro y0 y1 y2 y3 y4 y5 y6 y7 y8
   unfold flywheelref11_Decode.l1
   repeat' first
   | (with_reducible exact ih0 _ _ _ _ _ _)
   | (with_reducible exact ih1 _ _ _ _ _ _ _ _ _)
   | (with_reducible exact flywheelref06_Reader_Get.mono _ _ _ _ _)
   | (with_reducible exact LeO.refl _)
   | (with_reducible exact LeO.none _)
   | (with_reducible refine LeO.ite ?_ ?_)
   | (with_reducible refine LeO.bind ?_ (fun _ => ?_))
   | exact ih0 _ _ _ _ _ _
   | exact ih1 _ _ _ _ _ _ _ _ _
   | exact flywheelref06_Reader_Get.mono _ _ _ _ _
   | exact LeO.none _
   | refine LeO.ite ?_ ?_
   | refine LeO.bind ?_ (fun _ => ?_)
theorem flywheelref11_Decode.mono : ∀ a0 k, LeO (flywheelref11_Decode.f k a0) (flywheelref11_Decode.f (k + 1) a0) := by
 intro a0 k
 obtain ⟨ih0, ih1⟩ := flywheelref11_Decode.mono_l k
 unfold flywheelref11_Decode.f
 repeat' first
   | (with_reducible exact ih0 _ _ _ _ _ _)
   | (with_reducible exact ih1 _ _ _ _ _ _ _ _ _)
   | (with_reducible exact flywheelref06_Reader_Get.mono _ _ _ _ _)
   | (with_reducible exact LeO.refl _)
   | (with_reducible exact LeO.none _)
   | (with_reducible refine LeO.ite ?_ ?_)
   | (with_reducible refine LeO.bind ?_ (fun _ => ?_))
   | exact ih0 _ _ _ _ _ _
   | exact ih1 _ _ _ _ _ _ _ _ _
   | exact flywheelref06_Reader_Get.mono _ _ _ _ _
   | exact LeO.none _
   | refine LeO.ite ?_ ?_
   | refine LeO.bind ?_ (fun _ => ?_)
set_option maxHeartbeats 8000000 in
set_option maxRecDepth 100000 in
theorem flywheelref11_Decode.calls (k : Nat) (a0 : ByteArray) (r1 : Int) (r2 : Int) (r3 : List Int) (r4 : Int) (w : World) (h : flywheelref11_Decode.f k a0 = some (r1, r2, r3, r4)) :
  Calls Try.prog 26 #[.string a0] w fun e w' => ∃ v2_ : Value, e = .returned (.tuple #[.agg #[.int .u32 r1, .int .u32 r2, v2_], .int .i64 r4]) ∧ Kd.R (Kd.int .i64) 3 w' w.heap.size (fun _ => True) v2_ r3 ∧ Below w.heap.size w w' := by
 have hu83 := Try.underlying83
 have HB := Aside0.mk (Below.refl w.heap.size w)
 have H : (if (a0.size : Int) > 65536 then (some (0, 0, ([] : List Int), 2)) else (if ((a0.size : Int) % 4) = 0 then (if (a0.size : Int) < 12 then (some (0, 0, ([] : List Int), 60)) else ((flywheelref06_Read.f a0).bind fun bt541 => ((flywheelref06_Reader_Get.f k bt541.1 bt541.2.1 bt541.2.2 32).bind fun bt545 => ((flywheelref06_Reader_Get.f k bt545.2.1 bt545.2.2.1 bt545.2.2.2 32).bind fun bt549 => (flywheelref11_Decode.l0 k bt549.2.1 bt549.2.2.1 bt549.2.2.2 bt545.1 bt549.1 ([] : List Int)))))) else (some (0, 0, ([] : List Int), 90)))) = some (r1, r2, r3, r4) := h
 clear h
 by_cases c2 : (a0.size : Int) > 65536
 ·rw [if_pos c2] at H
  have c2b0 : decide (65536 < (a0.size : Int)) = true := decide_eq_true c2
  have c2b1 : decide (65536 < a0.size) = true := decide_eq_true (by omega)
  clear c2
  simp only [Option.some.injEq, Prod.mk.injEq] at H
  obtain ⟨rfl, rfl, rfl, rfl⟩ := H
  go_enter Try.func26, Try.ntmps26
  go_wp2_with (first | ((with_reducible refine gate_dst (N := 2) rfl ?_); refine box_event ?hg (N := 2) ?hd (cs := #[.int .u32 0, .int .u32 0, .slice none 0 0]) (t := 83) ?hr ?_; (case hd => rfl); (case hg => rfl); (case hr => first | (go_simp; done) | (go_simp; rfl)); intro gb540 hg w3 hbox hb; have n0_ := Aside0.mk (below_step (by repeat (first | (with_reducible first | exact HB.out | apply below_alloc | apply pw_below_drewN | apply below_drew1) | exact HB.out)) hb); have n1_ := Aside0.mk (hbox); have n2_ := Aside0.mk ((by rw [hg]; exact (below_size (by repeat (first | (with_reducible first | exact HB.out | apply below_alloc | apply pw_below_drewN | apply below_drew1) | exact HB.out))) : w.heap.size ≤ gb540)); have n3_ := Aside0.mk ((by rw [hg]; exact (below_size (by repeat (first | (with_reducible first | exact HB.out | apply below_alloc | apply pw_below_drewN | apply below_drew1) | exact HB.out))) : w.heap.size ≤ gb540)); clear HB; have HB := n0_; have BK540 := n1_; have GW540 := n2_; have GE540 := n3_; clear n0_ n1_ n2_ n3_; clear hb hbox hg; have hcz4_0 : w3.cell? ⟨gb540, 0, none⟩ = some (.int .u32 0) := (blk_cell BK540.out 0).trans rfl; have hcz4_1 : w3.cell? ⟨gb540, 1, none⟩ = some (.int .u32 0) := (blk_cell BK540.out 1).trans rfl; have hcz4_2 : w3.cell? ⟨gb540, 2, none⟩ = some (.slice none 0 0) := (blk_cell BK540.out 2).trans rfl; have hfz4_0 := blk_frozen BK540.out 0; have hfz4_1 := blk_frozen BK540.out 1; have hfz4_2 := blk_frozen BK540.out 2))
  refine bodyPost_ret (results_ct rfl _ _ gb540 83 #[.int .u32 0, .int .u32 0, .slice none 0 0] (0, 0) _ rfl (by (with_reducible repeat (first | refine blk_drewN ?_ _ | refine blk_drew ?_ | refine blk_alloc ?_ _)); refine blk_put (cs := #[.int .u32 0, .int .u32 0, .slice none 0 0]) ?_ 2 _ rfl; (with_reducible repeat (first | refine blk_drewN ?_ _ | refine blk_drew ?_ | refine blk_alloc ?_ _)); refine blk_put (cs := #[.int .u32 0, .int .u32 0, .slice none 0 0]) ?_ 1 _ rfl; (with_reducible repeat (first | refine blk_drewN ?_ _ | refine blk_drew ?_ | refine blk_alloc ?_ _)); refine blk_put (cs := #[.int .u32 0, .int .u32 0, .slice none 0 0]) ?_ 0 _ rfl; (with_reducible repeat (first | refine blk_drewN ?_ _ | refine blk_drew ?_ | refine blk_alloc ?_ _)); exact BK540.out) Try.underlying83 rfl (by kernel_rfl)) rfl ?_
  exact ⟨_, by first | rfl | (simp [errW_none, errW_some] <;> rfl) | (simp [*, errW_none, errW_some] <;> rfl), by first | exact Kd.R_nil _ _ _ _ _ | exact Kd.N_nil _ _ _ _ _ | exact Kd.V_nil _ _ _ _ _ | exact Kd.Q_nil _ _ _ _ _ | exact Kd.S_nil _ _ _ _ _, by repeat (first | (with_reducible first | exact HB.out | apply below_alloc | apply pw_below_drewN | apply below_drew1 | refine below_set ?_ GE540.out) | exact HB.out)⟩
 ·rw [if_neg c2] at H
  have c2b0 : decide (65536 < (a0.size : Int)) = false := decide_eq_false c2
  have c2b1 : decide (65536 < a0.size) = false := decide_eq_false (by omega)
  clear c2
  by_cases c5 : ((a0.size : Int) % 4) = 0
  ·rw [if_pos c5] at H
   have c5b0 : (((a0.size : Int) % 4) == 0) = true := beq_iff_eq.mpr c5
   have c5b1 : (((a0.size : Int) % 4) != 0) = false := bne_eq_false_iff_eq.mpr c5
   clear c5
   by_cases c6 : (a0.size : Int) < 12
   ·rw [if_pos c6] at H
    have c6b0 : decide ((a0.size : Int) < 12) = true := decide_eq_true c6
    have c6b1 : decide (a0.size < 12) = true := decide_eq_true (by omega)
    clear c6
    simp only [Option.some.injEq, Prod.mk.injEq] at H
    obtain ⟨rfl, rfl, rfl, rfl⟩ := H
    go_enter Try.func26, Try.ntmps26
    go_wp2_with (first | ((with_reducible refine gate_dst (N := 2) rfl ?_); refine box_event ?hg (N := 2) ?hd (cs := #[.int .u32 0, .int .u32 0, .slice none 0 0]) (t := 83) ?hr ?_; (case hd => rfl); (case hg => rfl); (case hr => first | (go_simp; done) | (go_simp; rfl)); intro gb540 hg w7 hbox hb; have n0_ := Aside0.mk (below_step (by repeat (first | (with_reducible first | exact HB.out | apply below_alloc | apply pw_below_drewN | apply below_drew1) | exact HB.out)) hb); have n1_ := Aside0.mk (hbox); have n2_ := Aside0.mk ((by rw [hg]; exact (below_size (by repeat (first | (with_reducible first | exact HB.out | apply below_alloc | apply pw_below_drewN | apply below_drew1) | exact HB.out))) : w.heap.size ≤ gb540)); have n3_ := Aside0.mk ((by rw [hg]; exact (below_size (by repeat (first | (with_reducible first | exact HB.out | apply below_alloc | apply pw_below_drewN | apply below_drew1) | exact HB.out))) : w.heap.size ≤ gb540)); clear HB; have HB := n0_; have BK540 := n1_; have GW540 := n2_; have GE540 := n3_; clear n0_ n1_ n2_ n3_; clear hb hbox hg; have hcz8_0 : w7.cell? ⟨gb540, 0, none⟩ = some (.int .u32 0) := (blk_cell BK540.out 0).trans rfl; have hcz8_1 : w7.cell? ⟨gb540, 1, none⟩ = some (.int .u32 0) := (blk_cell BK540.out 1).trans rfl; have hcz8_2 : w7.cell? ⟨gb540, 2, none⟩ = some (.slice none 0 0) := (blk_cell BK540.out 2).trans rfl; have hfz8_0 := blk_frozen BK540.out 0; have hfz8_1 := blk_frozen BK540.out 1; have hfz8_2 := blk_frozen BK540.out 2))
    refine bodyPost_ret (results_ct rfl _ _ gb540 83 #[.int .u32 0, .int .u32 0, .slice none 0 0] (0, 0) _ rfl (by (with_reducible repeat (first | refine blk_drewN ?_ _ | refine blk_drew ?_ | refine blk_alloc ?_ _)); refine blk_put (cs := #[.int .u32 0, .int .u32 0, .slice none 0 0]) ?_ 2 _ rfl; (with_reducible repeat (first | refine blk_drewN ?_ _ | refine blk_drew ?_ | refine blk_alloc ?_ _)); refine blk_put (cs := #[.int .u32 0, .int .u32 0, .slice none 0 0]) ?_ 1 _ rfl; (with_reducible repeat (first | refine blk_drewN ?_ _ | refine blk_drew ?_ | refine blk_alloc ?_ _)); refine blk_put (cs := #[.int .u32 0, .int .u32 0, .slice none 0 0]) ?_ 0 _ rfl; (with_reducible repeat (first | refine blk_drewN ?_ _ | refine blk_drew ?_ | refine blk_alloc ?_ _)); exact BK540.out) Try.underlying83 rfl (by kernel_rfl)) rfl ?_
    exact ⟨_, by first | rfl | (simp [errW_none, errW_some] <;> rfl) | (simp [*, errW_none, errW_some] <;> rfl), by first | exact Kd.R_nil _ _ _ _ _ | exact Kd.N_nil _ _ _ _ _ | exact Kd.V_nil _ _ _ _ _ | exact Kd.Q_nil _ _ _ _ _ | exact Kd.S_nil _ _ _ _ _, by repeat (first | (with_reducible first | exact HB.out | apply below_alloc | apply pw_below_drewN | apply below_drew1 | refine below_set ?_ GE540.out) | exact HB.out)⟩
   ·rw [if_neg c6] at H
    have c6b0 : decide ((a0.size : Int) < 12) = false := decide_eq_false c6
    have c6b1 : decide (a0.size < 12) = false := decide_eq_false (by omega)
    clear c6
    replace H := Option.bind_eq_some_iff.mp H
    obtain ⟨⟨t541, t542, t543⟩, A90, H⟩ := H
    replace H : ((flywheelref06_Reader_Get.f k t541 t542 t543 32).bind fun bt545 => ((flywheelref06_Reader_Get.f k bt545.2.1 bt545.2.2.1 bt545.2.2.2 32).bind fun bt549 => (flywheelref11_Decode.l0 k bt549.2.1 bt549.2.2.1 bt549.2.2.2 bt545.1 bt549.1 ([] : List Int)))) = some (r1, r2, r3, r4) := H
    have A9 := Aside0.mk A90
    clear A90
    replace H := Option.bind_eq_some_iff.mp H
    obtain ⟨⟨t545, t546, t547, t548⟩, A100, H⟩ := H
    replace H : ((flywheelref06_Reader_Get.f k t546 t547 t548 32).bind fun bt549 => (flywheelref11_Decode.l0 k bt549.2.1 bt549.2.2.1 bt549.2.2.2 t545 bt549.1 ([] : List Int))) = some (r1, r2, r3, r4) := H
    have A10 := Aside0.mk A100
    clear A100
    replace H := Option.bind_eq_some_iff.mp H
    obtain ⟨⟨t549, t550, t551, t552⟩, A110, H⟩ := H
    replace H : (flywheelref11_Decode.l0 k t550 t551 t552 t545 t549 ([] : List Int)) = some (r1, r2, r3, r4) := H
    have A11 := Aside0.mk A110
    clear A110
    have H' := Aside0.mk H
    clear H
    go_enter Try.func26, Try.ntmps26
    go_wp2_with (first | ((with_reducible refine gate_dst (N := 2) rfl ?_); refine box_event ?hg (N := 2) ?hd (cs := #[.int .u32 0, .int .u32 0, .slice none 0 0]) (t := 83) ?hr ?_; (case hd => rfl); (case hg => rfl); (case hr => first | (go_simp; done) | (go_simp; rfl)); intro gb540 hg w12 hbox hb; have n0_ := Aside0.mk (below_step (by repeat (first | (with_reducible first | exact HB.out | apply below_alloc | apply pw_below_drewN | apply below_drew1) | exact HB.out)) hb); have n1_ := Aside0.mk (hbox); have n2_ := Aside0.mk ((by rw [hg]; exact (below_size (by repeat (first | (with_reducible first | exact HB.out | apply below_alloc | apply pw_below_drewN | apply below_drew1) | exact HB.out))) : w.heap.size ≤ gb540)); have n3_ := Aside0.mk ((by rw [hg]; exact (below_size (by repeat (first | (with_reducible first | exact HB.out | apply below_alloc | apply pw_below_drewN | apply below_drew1) | exact HB.out))) : w.heap.size ≤ gb540)); clear HB; have HB := n0_; have BK540 := n1_; have GW540 := n2_; have GE540 := n3_; clear n0_ n1_ n2_ n3_; clear hb hbox hg) | ((with_reducible refine gate_callee (f := 46) rfl ?_); refine goesL_ (some 23) rfl rfl Try.func46 (by kernel_rfl) rfl #[.string a0] rfl (by (try simp only [List.map_toArray, List.map_cons, List.map_nil]); first | done | rfl | (simp only [List.length_drop, List.length_take]; rfl)) ?_; (with_reducible refine (flywheelref06_Read.calls a0 t541 t542 t543 w _ ?side1 A9.out).mono ?_); (case side1 => repeat (first | (with_reducible first | exact HB.out | apply below_alloc | apply pw_below_drewN | apply below_drew1 | refine below_set ?_ GE540.out) | exact HB.out)); rintro e w13 ⟨g544, rfl, hi, hb, hb2⟩; refine ⟨_, rfl, ?_⟩; have n0_ := Aside0.mk (blk_below (g := gb540) (o := .cells #[.int .u32 0, .int .u32 0, .slice none 0 0] 83 (0, 0)) (by (with_reducible repeat (first | refine blk_drewN ?_ _ | refine blk_drew ?_ | refine blk_alloc ?_ _)); exact BK540.out) hb2); have n1_ := Aside0.mk (hb); have n2_ := Aside0.mk (hi); have n3_ := Aside0.mk (IsS139.ne_blk hi (blk_below (g := gb540) (o := .cells #[.int .u32 0, .int .u32 0, .slice none 0 0] 83 (0, 0)) (by (with_reducible repeat (first | refine blk_drewN ?_ _ | refine blk_drew ?_ | refine blk_alloc ?_ _)); exact BK540.out) hb2) (by decide)); have n4_ := Aside0.mk (Ne.symm (IsS139.ne_blk hi (blk_below (g := gb540) (o := .cells #[.int .u32 0, .int .u32 0, .slice none 0 0] 83 (0, 0)) (by (with_reducible repeat (first | refine blk_drewN ?_ _ | refine blk_drew ?_ | refine blk_alloc ?_ _)); exact BK540.out) hb2) (by decide))); clear BK540; clear HB; have BK540 := n0_; have HB := n1_; have HI544 := n2_; have NB544_540 := n3_; have NB540_544 := n4_; clear n0_ n1_ n2_ n3_ n4_; (try clear hb); (try clear hb2); (try clear hk); (try clear hi)) | ((with_reducible refine gate_callee (f := 47) rfl ?_); refine goesL_ (some 25) rfl rfl Try.func47 (by kernel_rfl) rfl #[.pointer (some ⟨g544, 0, none⟩), .int .i64 32] rfl (by (try simp only [List.map_toArray, List.map_cons, List.map_nil]); first | done | rfl | (simp only [List.length_drop, List.length_take]; rfl)) ?_; (with_reducible refine (flywheelref06_Reader_Get.calls k g544 t541 t542 t543 32 t545 t546 t547 t548 w _ ?side1 ?side2 A10.out).mono ?_); (case side1 => repeat (first | (with_reducible first | exact HI544.out | apply IsS139.alloc | apply IsS139.drewN | apply IsS139.drew | apply IsS139.set_0 | apply IsS139.set_1 | apply IsS139.set_2 | refine IsS139.far ?_ NB544_540.out _) | exact HI544.out)); (case side2 => repeat (first | (with_reducible first | exact HB.out | apply below_alloc | apply pw_below_drewN | apply below_drew1 | refine below_set ?_ (IsS139.ge HI544.out) | refine below_set ?_ GE540.out) | exact HB.out)); rintro e w14 ⟨rfl, hi, hb, hk⟩; refine ⟨_, rfl, ?_⟩; have n0_ := Aside0.mk (KeepBut.blk hk (g' := gb540) (o := .cells #[.int .u32 0, .int .u32 0, .slice none 0 0] 83 (0, 0)) (by (with_reducible repeat (first | refine blk_drewN ?_ _ | refine blk_drew ?_ | refine blk_alloc ?_ _)); exact BK540.out) NB540_544.out (by simp)); have n1_ := Aside0.mk (hb); have n2_ := Aside0.mk (hi); clear BK540; clear HB; clear HI544; have BK540 := n0_; have HB := n1_; have HI544 := n2_; clear n0_ n1_ n2_; (try clear hb); (try clear hb2); (try clear hk); (try clear hi)) | ((with_reducible refine gate_callee (f := 47) rfl ?_); refine goesL_ (some 27) rfl rfl Try.func47 (by kernel_rfl) rfl #[.pointer (some ⟨g544, 0, none⟩), .int .i64 32] rfl (by (try simp only [List.map_toArray, List.map_cons, List.map_nil]); first | done | rfl | (simp only [List.length_drop, List.length_take]; rfl)) ?_; (with_reducible refine (flywheelref06_Reader_Get.calls k g544 t546 t547 t548 32 t549 t550 t551 t552 w _ ?side1 ?side2 A11.out).mono ?_); (case side1 => repeat (first | (with_reducible first | exact HI544.out | apply IsS139.alloc | apply IsS139.drewN | apply IsS139.drew | apply IsS139.set_0 | apply IsS139.set_1 | apply IsS139.set_2 | refine IsS139.far ?_ NB544_540.out _) | exact HI544.out)); (case side2 => repeat (first | (with_reducible first | exact HB.out | apply below_alloc | apply pw_below_drewN | apply below_drew1 | refine below_set ?_ (IsS139.ge HI544.out) | refine below_set ?_ GE540.out) | exact HB.out)); rintro e w15 ⟨rfl, hi, hb, hk⟩; refine ⟨_, rfl, ?_⟩; have n0_ := Aside0.mk (KeepBut.blk hk (g' := gb540) (o := .cells #[.int .u32 0, .int .u32 0, .slice none 0 0] 83 (0, 0)) (by (with_reducible repeat (first | refine blk_drewN ?_ _ | refine blk_drew ?_ | refine blk_alloc ?_ _)); exact BK540.out) NB540_544.out (by simp)); have n1_ := Aside0.mk (hb); have n2_ := Aside0.mk (hi); clear BK540; clear HB; clear HI544; have BK540 := n0_; have HB := n1_; have HI544 := n2_; clear n0_ n1_ n2_; (try clear hb); (try clear hb2); (try clear hk); (try clear hi)) | ((with_reducible refine gate_dst (N := 5) rfl ?_); refine box_event ?hg (N := 5) ?hd (cs := #[.int .u32 0, .int .u32 0, .slice none 0 0]) (t := 83) ?hr ?_; (case hd => rfl); (case hg => rfl); (case hr => first | (go_simp; done) | (go_simp; rfl)); intro gb553 hg w16 hbox hb; have n0_ := Aside0.mk (blk_below (g := gb540) (o := .cells #[.int .u32 0, .int .u32 0, .slice none 0 0] 83 (0, 0)) (by (with_reducible repeat (first | refine blk_drewN ?_ _ | refine blk_drew ?_ | refine blk_alloc ?_ _)); exact BK540.out) hb); have n1_ := Aside0.mk (IsS139.below (by repeat (first | (with_reducible first | exact HI544.out | apply IsS139.alloc | apply IsS139.drewN | apply IsS139.drew | apply IsS139.set_0 | apply IsS139.set_1 | apply IsS139.set_2 | refine IsS139.far ?_ NB544_540.out _) | exact HI544.out)) hb); have n2_ := Aside0.mk (below_step (by repeat (first | (with_reducible first | exact HB.out | apply below_alloc | apply pw_below_drewN | apply below_drew1 | refine below_set ?_ (IsS139.ge HI544.out) | refine below_set ?_ GE540.out) | exact HB.out)) hb); have n3_ := Aside0.mk (hbox); have n4_ := Aside0.mk ((by rw [hg]; exact (below_size (by repeat (first | (with_reducible first | exact HB.out | apply below_alloc | apply pw_below_drewN | apply below_drew1 | refine below_set ?_ (IsS139.ge HI544.out) | refine below_set ?_ GE540.out) | exact HB.out))) : w.heap.size ≤ gb553)); have n5_ := Aside0.mk ((by rw [hg]; exact (below_size (by repeat (first | (with_reducible first | exact HB.out | apply below_alloc | apply pw_below_drewN | apply below_drew1 | refine below_set ?_ (IsS139.ge HI544.out) | refine below_set ?_ GE540.out) | exact HB.out))) : w.heap.size ≤ gb553)); have n6_ := Aside0.mk ((by rw [hg]; exact Nat.ne_of_lt (blk_lt (g := gb540) (o := .cells #[.int .u32 0, .int .u32 0, .slice none 0 0] 83 (0, 0)) (by (with_reducible repeat (first | refine blk_drewN ?_ _ | refine blk_drew ?_ | refine blk_alloc ?_ _)); exact BK540.out)) : gb540 ≠ gb553)); have n7_ := Aside0.mk ((by rw [hg]; exact Nat.ne_of_gt (blk_lt (g := gb540) (o := .cells #[.int .u32 0, .int .u32 0, .slice none 0 0] 83 (0, 0)) (by (with_reducible repeat (first | refine blk_drewN ?_ _ | refine blk_drew ?_ | refine blk_alloc ?_ _)); exact BK540.out)) : gb553 ≠ gb540)); have n8_ := Aside0.mk ((by rw [hg]; exact Nat.ne_of_lt (IsS139.lt (show IsS139 w _ g544 t550 t551 t552 from by repeat (first | (with_reducible first | exact HI544.out | apply IsS139.alloc | apply IsS139.drewN | apply IsS139.drew | apply IsS139.set_0 | apply IsS139.set_1 | apply IsS139.set_2 | refine IsS139.far ?_ NB544_540.out _) | exact HI544.out))) : g544 ≠ gb553)); have n9_ := Aside0.mk ((by rw [hg]; exact Nat.ne_of_gt (IsS139.lt (show IsS139 w _ g544 t550 t551 t552 from by repeat (first | (with_reducible first | exact HI544.out | apply IsS139.alloc | apply IsS139.drewN | apply IsS139.drew | apply IsS139.set_0 | apply IsS139.set_1 | apply IsS139.set_2 | refine IsS139.far ?_ NB544_540.out _) | exact HI544.out))) : gb553 ≠ g544)); clear BK540; clear HI544; clear HB; have BK540 := n0_; have HI544 := n1_; have HB := n2_; have BK553 := n3_; have GW553 := n4_; have GE553 := n5_; have NB540_553 := n6_; have NB553_540 := n7_; have NB544_553 := n8_; have NB553_544 := n9_; clear n0_ n1_ n2_ n3_ n4_ n5_ n6_ n7_ n8_ n9_; clear hb hbox hg; have hnb17 := NB553_540.out; have hnc17 := NB540_553.out; have hnb18 := NB553_544.out; have hnc18 := NB544_553.out; have hcz19_0 : w16.cell? ⟨gb553, 0, none⟩ = some (.int .u32 0) := (blk_cell BK553.out 0).trans rfl; have hcz19_1 : w16.cell? ⟨gb553, 1, none⟩ = some (.int .u32 0) := (blk_cell BK553.out 1).trans rfl; have hcz19_2 : w16.cell? ⟨gb553, 2, none⟩ = some (.slice none 0 0) := (blk_cell BK553.out 2).trans rfl; have hfz19_0 := blk_frozen BK553.out 0; have hfz19_1 := blk_frozen BK553.out 1; have hfz19_2 := blk_frozen BK553.out 2))
    go_loopg [] k (fun kq w' => ∃ (x545000_1 : ByteArray) (x545001_1 : Int) (x545002_1 : Bool) (x554002_1 : List Int) (u554002 : Value), Aside0 (flywheelref11_Decode.l0 kq x545000_1 x545001_1 x545002_1 t545 t549 x554002_1 = some (r1, r2, r3, r4)) ∧ Aside0 (kq ≤ k) ∧ Aside0 (Kd.R (Kd.int .i64) 3 w' w.heap.size (fun _ => True) u554002 x554002_1) ∧ Aside0 (w'.heap[gb540]? = some (.cells #[.int .u32 0, .int .u32 0, (.slice none 0 0)] 83 (0, 0))) ∧ Aside0 (w'.heap[gb553]? = some (.cells #[.int .u32 t545, .int .u32 t549, u554002] 83 (0, 0))) ∧ Aside0 (IsS139 w w' g544 x545000_1 x545001_1 x545002_1) ∧ Aside0 (Below w.heap.size w w'))
    case atStart => exact ⟨(t550), (t551), (t552), (([] : List Int)), (.slice none 0 0), H', ⟨Nat.le_refl _⟩, ⟨by first | exact Kd.R_nil _ _ _ _ _ | exact Kd.N_nil _ _ _ _ _ | exact Kd.V_nil _ _ _ _ _ | exact Kd.Q_nil _ _ _ _ _ | exact Kd.S_nil _ _ _ _ _⟩, ⟨by (with_reducible repeat (first | refine blk_drewN ?_ _ | refine blk_drew ?_ | refine blk_alloc ?_ _)); refine blk_far ?_ NB540_553.out _; (with_reducible repeat (first | refine blk_drewN ?_ _ | refine blk_drew ?_ | refine blk_alloc ?_ _)); refine blk_far ?_ NB540_553.out _; (with_reducible repeat (first | refine blk_drewN ?_ _ | refine blk_drew ?_ | refine blk_alloc ?_ _)); refine blk_far ?_ NB540_553.out _; (with_reducible repeat (first | refine blk_drewN ?_ _ | refine blk_drew ?_ | refine blk_alloc ?_ _)); exact BK540.out⟩, ⟨by (with_reducible repeat (first | refine blk_drewN ?_ _ | refine blk_drew ?_ | refine blk_alloc ?_ _)); refine blk_put (cs := #[.int .u32 t545, .int .u32 t549, .slice none 0 0]) ?_ 2 _ rfl; (with_reducible repeat (first | refine blk_drewN ?_ _ | refine blk_drew ?_ | refine blk_alloc ?_ _)); refine blk_put (cs := #[.int .u32 t545, .int .u32 0, .slice none 0 0]) ?_ 1 _ rfl; (with_reducible repeat (first | refine blk_drewN ?_ _ | refine blk_drew ?_ | refine blk_alloc ?_ _)); refine blk_put (cs := #[.int .u32 0, .int .u32 0, .slice none 0 0]) ?_ 0 _ rfl; (with_reducible repeat (first | refine blk_drewN ?_ _ | refine blk_drew ?_ | refine blk_alloc ?_ _)); exact BK553.out⟩, ⟨by repeat (first | (with_reducible first | exact HI544.out | apply IsS139.alloc | apply IsS139.drewN | apply IsS139.drew | apply IsS139.set_0 | apply IsS139.set_1 | apply IsS139.set_2 | refine IsS139.far ?_ NB544_540.out _ | refine IsS139.far ?_ NB544_553.out _) | exact HI544.out)⟩, ⟨by repeat (first | (with_reducible first | exact HB.out | apply below_alloc | apply pw_below_drewN | apply below_drew1 | refine below_set ?_ (IsS139.ge HI544.out) | refine below_set ?_ GE540.out | refine below_set ?_ GE553.out) | exact HB.out)⟩⟩
    case round =>
     clear H'
     try clear c1
     try clear c2
     try clear c2b0
     try clear c2b1
     try clear p2
     try clear c4
     try clear c5
     try clear c5b0
     try clear c5b1
     try clear c6
     try clear c6b0
     try clear c6b1
     try clear c17
     try clear c18
     try clear hcz19_0
     try clear hcz19_1
     try clear hcz19_2
     try clear hcz4_0
     try clear hcz4_1
     try clear hcz4_2
     try clear hcz8_0
     try clear hcz8_1
     try clear hcz8_2
     try clear hfz19_0
     try clear hfz19_1
     try clear hfz19_2
     try clear hfz4_0
     try clear hfz4_1
     try clear hfz4_2
     try clear hfz8_0
     try clear hfz8_1
     try clear hfz8_2
     obtain ⟨x545000_1, x545001_1, x545002_1, x554002_1, u554002, HA, HK1, HO_554002, BK540, BK553, HI544, HB⟩ := hrel
     cases gk with
     | zero => exact absurd HA.out (by simp [flywheelref11_Decode.l0])
     | succ k1 =>
      have H := HA.out
      clear HA
      simp only [flywheelref11_Decode.l0] at H
      replace H := Option.bind_eq_some_iff.mp H
      obtain ⟨⟨t554, t555, t556, t557⟩, A200, H⟩ := H
      replace H : (if t554 > 0 then ((flywheelref06_Reader_Get.f k1 t555 t556 t557 16).bind fun bt558 => ((flywheelref06_Reader_Get.f k1 bt558.2.1 bt558.2.2.1 bt558.2.2.2 16).bind fun bt562 => (if x554002_1.length < 17592186044416 then (flywheelref11_Decode.l1 k1 (wrap64 (bt558.1)) bt562.1 0 bt562.2.1 bt562.2.2.1 bt562.2.2.2 t545 t549 (x554002_1 ++ [wrap64 (bt558.1)])) else (none)))) else (if (x554002_1.length : Int) > 4096 then (some (0, 0, ([] : List Int), 3)) else ((flywheelref11_Good.f x554002_1).bind fun t572 => (if t572 = true then (some (t545, t549, x554002_1, 0)) else (some (0, 0, ([] : List Int), 110)))))) = some (r1, r2, r3, r4) := H
      have A20 := Aside0.mk A200
      clear A200
      by_cases c21 : t554 > 0
      ·rw [if_pos c21] at H
       have c21b0 : decide (0 < t554) = true := decide_eq_true c21
       clear c21
       replace H := Option.bind_eq_some_iff.mp H
       obtain ⟨⟨t558, t559, t560, t561⟩, A220, H⟩ := H
       replace H : ((flywheelref06_Reader_Get.f k1 t559 t560 t561 16).bind fun bt562 => (if x554002_1.length < 17592186044416 then (flywheelref11_Decode.l1 k1 (wrap64 (t558)) bt562.1 0 bt562.2.1 bt562.2.2.1 bt562.2.2.2 t545 t549 (x554002_1 ++ [wrap64 (t558)])) else (none))) = some (r1, r2, r3, r4) := H
       have A22 := Aside0.mk A220
       clear A220
       replace H := Option.bind_eq_some_iff.mp H
       obtain ⟨⟨t562, t563, t564, t565⟩, A230, H⟩ := H
       replace H : (if x554002_1.length < 17592186044416 then (flywheelref11_Decode.l1 k1 (wrap64 (t558)) t562 0 t563 t564 t565 t545 t549 (x554002_1 ++ [wrap64 (t558)])) else (none)) = some (r1, r2, r3, r4) := H
       have A23 := Aside0.mk A230
       clear A230
       by_cases c24 : x554002_1.length < 17592186044416
       ·rw [if_pos c24] at H
        have LMc24 := Aside0.mk c24
        clear c24
        obtain ⟨y566, hy566⟩ : ∃ y_ : List Int, y_ = (x554002_1 ++ [wrap64 (t558)]) := ⟨_, rfl⟩
        replace H : (flywheelref11_Decode.l1 k1 (wrap64 (t558)) t562 0 t563 t564 t565 t545 t549 y566) = some (r1, r2, r3, r4) := by first | (rw [hy566]; with_reducible exact H) | (have H2_ := (Option.bind_some _ _).symm.trans H; rw [hy566]; with_reducible exact H2_) | (have H2_ := (Option.bind_some _ _).symm.trans H; with_reducible exact H2_) | with_reducible exact H | (rw [hy566]; exact H) | exact H
        have Ny566 := Aside0.mk hy566
        clear hy566
        have H' := Aside0.mk H
        clear H
        go_wp2_with (first | ((with_reducible refine gate_callee (f := 48) rfl ?_); refine goesL_ (some 30) rfl rfl Try.func48 (by kernel_rfl) rfl #[.pointer (some ⟨g544, 0, none⟩)] rfl (by (try simp only [List.map_toArray, List.map_cons, List.map_nil]); first | done | rfl | (simp only [List.length_drop, List.length_take]; rfl)) ?_; (with_reducible refine (flywheelref06_Reader_Left.calls g544 x545000_1 x545001_1 x545002_1 t554 t555 t556 t557 w _ ?side1 ?side2 A20.out).mono ?_); (case side1 => repeat (first | (with_reducible first | exact HI544.out | apply IsS139.alloc | apply IsS139.drewN | apply IsS139.drew | apply IsS139.set_0 | apply IsS139.set_1 | apply IsS139.set_2 | refine IsS139.far ?_ NB544_540.out _ | refine IsS139.far ?_ NB544_553.out _) | exact HI544.out)); (case side2 => repeat (first | (with_reducible first | exact HB.out | apply below_alloc | apply pw_below_drewN | apply below_drew1 | refine below_set ?_ (IsS139.ge HI544.out) | refine below_set ?_ GE540.out | refine below_set ?_ GE553.out) | exact HB.out)); rintro e w25 ⟨rfl, hi, hb, hk⟩; refine ⟨_, rfl, ?_⟩; have n0_ := Aside0.mk (Kd.R_mono (Kd.R_keep (IsS139.apart (show IsS139 w _ g544 x545000_1 x545001_1 x545002_1 from by repeat (first | (with_reducible first | exact HI544.out | apply IsS139.alloc | apply IsS139.drewN | apply IsS139.drew | apply IsS139.set_0 | apply IsS139.set_1 | apply IsS139.set_2 | refine IsS139.far ?_ NB544_540.out _ | refine IsS139.far ?_ NB544_553.out _) | exact HI544.out)) (by (with_reducible repeat (first | apply Kd.R_alloc | apply Kd.R_drewN | apply Kd.R_drew)); exact HO_554002.out) (by decide)) hk (fun _ h => h.2)) (fun _ h => h.1)); have n1_ := Aside0.mk (KeepBut.blk hk (g' := gb540) (o := .cells #[.int .u32 0, .int .u32 0, .slice none 0 0] 83 (0, 0)) (by (with_reducible repeat (first | refine blk_drewN ?_ _ | refine blk_drew ?_ | refine blk_alloc ?_ _)); exact BK540.out) NB540_544.out (by simp)); have n2_ := Aside0.mk (KeepBut.blk hk (g' := gb553) (o := .cells #[.int .u32 t545, .int .u32 t549, u554002] 83 (0, 0)) (by (with_reducible repeat (first | refine blk_drewN ?_ _ | refine blk_drew ?_ | refine blk_alloc ?_ _)); exact BK553.out) NB553_544.out (by simp)); have n3_ := Aside0.mk (hb); have n4_ := Aside0.mk (hi); clear HO_554002; clear BK540; clear BK553; clear HB; clear HI544; have HO_554002 := n0_; have BK540 := n1_; have BK553 := n2_; have HB := n3_; have HI544 := n4_; clear n0_ n1_ n2_ n3_ n4_; (try clear hb); (try clear hb2); (try clear hk); (try clear hi)) | ((with_reducible refine gate_callee (f := 47) rfl ?_); refine goesL_ (some 33) rfl rfl Try.func47 (by kernel_rfl) rfl #[.pointer (some ⟨g544, 0, none⟩), .int .i64 16] rfl (by (try simp only [List.map_toArray, List.map_cons, List.map_nil]); first | done | rfl | (simp only [List.length_drop, List.length_take]; rfl)) ?_; (with_reducible refine (flywheelref06_Reader_Get.calls k1 g544 t555 t556 t557 16 t558 t559 t560 t561 w _ ?side1 ?side2 A22.out).mono ?_); (case side1 => repeat (first | (with_reducible first | exact HI544.out | apply IsS139.alloc | apply IsS139.drewN | apply IsS139.drew | apply IsS139.set_0 | apply IsS139.set_1 | apply IsS139.set_2 | refine IsS139.far ?_ NB544_540.out _ | refine IsS139.far ?_ NB544_553.out _) | exact HI544.out)); (case side2 => repeat (first | (with_reducible first | exact HB.out | apply below_alloc | apply pw_below_drewN | apply below_drew1 | refine below_set ?_ (IsS139.ge HI544.out) | refine below_set ?_ GE540.out | refine below_set ?_ GE553.out) | exact HB.out)); rintro e w26 ⟨rfl, hi, hb, hk⟩; refine ⟨_, rfl, ?_⟩; have n0_ := Aside0.mk (Kd.R_mono (Kd.R_keep (IsS139.apart (show IsS139 w _ g544 t555 t556 t557 from by repeat (first | (with_reducible first | exact HI544.out | apply IsS139.alloc | apply IsS139.drewN | apply IsS139.drew | apply IsS139.set_0 | apply IsS139.set_1 | apply IsS139.set_2 | refine IsS139.far ?_ NB544_540.out _ | refine IsS139.far ?_ NB544_553.out _) | exact HI544.out)) (by (with_reducible repeat (first | apply Kd.R_alloc | apply Kd.R_drewN | apply Kd.R_drew)); exact HO_554002.out) (by decide)) hk (fun _ h => h.2)) (fun _ h => h.1)); have n1_ := Aside0.mk (KeepBut.blk hk (g' := gb540) (o := .cells #[.int .u32 0, .int .u32 0, .slice none 0 0] 83 (0, 0)) (by (with_reducible repeat (first | refine blk_drewN ?_ _ | refine blk_drew ?_ | refine blk_alloc ?_ _)); exact BK540.out) NB540_544.out (by simp)); have n2_ := Aside0.mk (KeepBut.blk hk (g' := gb553) (o := .cells #[.int .u32 t545, .int .u32 t549, u554002] 83 (0, 0)) (by (with_reducible repeat (first | refine blk_drewN ?_ _ | refine blk_drew ?_ | refine blk_alloc ?_ _)); exact BK553.out) NB553_544.out (by simp)); have n3_ := Aside0.mk (hb); have n4_ := Aside0.mk (hi); clear HO_554002; clear BK540; clear BK553; clear HB; clear HI544; have HO_554002 := n0_; have BK540 := n1_; have BK553 := n2_; have HB := n3_; have HI544 := n4_; clear n0_ n1_ n2_ n3_ n4_; (try clear hb); (try clear hb2); (try clear hk); (try clear hi)) | ((with_reducible refine gate_callee (f := 47) rfl ?_); refine goesL_ (some 36) rfl rfl Try.func47 (by kernel_rfl) rfl #[.pointer (some ⟨g544, 0, none⟩), .int .i64 16] rfl (by (try simp only [List.map_toArray, List.map_cons, List.map_nil]); first | done | rfl | (simp only [List.length_drop, List.length_take]; rfl)) ?_; (with_reducible refine (flywheelref06_Reader_Get.calls k1 g544 t559 t560 t561 16 t562 t563 t564 t565 w _ ?side1 ?side2 A23.out).mono ?_); (case side1 => repeat (first | (with_reducible first | exact HI544.out | apply IsS139.alloc | apply IsS139.drewN | apply IsS139.drew | apply IsS139.set_0 | apply IsS139.set_1 | apply IsS139.set_2 | refine IsS139.far ?_ NB544_540.out _ | refine IsS139.far ?_ NB544_553.out _) | exact HI544.out)); (case side2 => repeat (first | (with_reducible first | exact HB.out | apply below_alloc | apply pw_below_drewN | apply below_drew1 | refine below_set ?_ (IsS139.ge HI544.out) | refine below_set ?_ GE540.out | refine below_set ?_ GE553.out) | exact HB.out)); rintro e w27 ⟨rfl, hi, hb, hk⟩; refine ⟨_, rfl, ?_⟩; have n0_ := Aside0.mk (Kd.R_mono (Kd.R_keep (IsS139.apart (show IsS139 w _ g544 t559 t560 t561 from by repeat (first | (with_reducible first | exact HI544.out | apply IsS139.alloc | apply IsS139.drewN | apply IsS139.drew | apply IsS139.set_0 | apply IsS139.set_1 | apply IsS139.set_2 | refine IsS139.far ?_ NB544_540.out _ | refine IsS139.far ?_ NB544_553.out _) | exact HI544.out)) (by (with_reducible repeat (first | apply Kd.R_alloc | apply Kd.R_drewN | apply Kd.R_drew)); exact HO_554002.out) (by decide)) hk (fun _ h => h.2)) (fun _ h => h.1)); have n1_ := Aside0.mk (KeepBut.blk hk (g' := gb540) (o := .cells #[.int .u32 0, .int .u32 0, .slice none 0 0] 83 (0, 0)) (by (with_reducible repeat (first | refine blk_drewN ?_ _ | refine blk_drew ?_ | refine blk_alloc ?_ _)); exact BK540.out) NB540_544.out (by simp)); have n2_ := Aside0.mk (KeepBut.blk hk (g' := gb553) (o := .cells #[.int .u32 t545, .int .u32 t549, u554002] 83 (0, 0)) (by (with_reducible repeat (first | refine blk_drewN ?_ _ | refine blk_drew ?_ | refine blk_alloc ?_ _)); exact BK553.out) NB553_544.out (by simp)); have n3_ := Aside0.mk (hb); have n4_ := Aside0.mk (hi); clear HO_554002; clear BK540; clear BK553; clear HB; clear HI544; have HO_554002 := n0_; have BK540 := n1_; have BK553 := n2_; have HB := n3_; have HI544 := n4_; clear n0_ n1_ n2_ n3_ n4_; (try clear hb); (try clear hb2); (try clear hk); (try clear hi); have hnb28 := NB553_540.out; have hnc28 := NB540_553.out; have hnb29 := NB553_544.out; have hnc29 := NB544_553.out; have hcz30_0 : w27.cell? ⟨gb553, 0, none⟩ = some (.int .u32 t545) := (blk_cell BK553.out 0).trans rfl; have hcz30_1 : w27.cell? ⟨gb553, 1, none⟩ = some (.int .u32 t549) := (blk_cell BK553.out 1).trans rfl; have hcz30_2 : w27.cell? ⟨gb553, 2, none⟩ = some (u554002) := (blk_cell BK553.out 2).trans rfl; have hfz30_0 := blk_frozen BK553.out 0; have hfz30_1 := blk_frozen BK553.out 1; have hfz30_2 := blk_frozen BK553.out 2) | ((with_reducible refine gate_builtin (b := .append) (xs := #[.tmp 38, .tmp 40]) rfl ?_); at_builtin; refine Kd.R_append (Kd.int .i64) (w0 := w) w.heap.size rfl (.tmp 38) (.tmp 40) 24 3 (.int .i64 0) 8 rfl Try.underlying24 info3 rfl (by decide) (by omega) u554002 x554002_1 (wrap64 (t558)) [.int .i64 (wrap64 (t558))] (fun _ => True) (fun _ => False) rfl rfl ?aP (fun _ hk => hk.elim) ?aF ?aO ?aB ?aS ?aL ?_; (case aP => exact rfl); (case aB => exact (by repeat (first | (with_reducible first | exact HB.out | apply below_alloc | apply pw_below_drewN | apply below_drew1 | refine below_set ?_ (IsS139.ge HI544.out) | refine below_set ?_ GE540.out | refine below_set ?_ GE553.out) | exact HB.out))); (case aF => exact (fun _ _ => trivial)); (case aO => exact (by (with_reducible repeat (first | apply Kd.R_alloc | apply Kd.R_drewN | apply Kd.R_drew)); exact HO_554002.out)); (case aS => exact (below_size (by repeat (first | (with_reducible first | exact HB.out | apply below_alloc | apply pw_below_drewN | apply below_drew1 | refine below_set ?_ (IsS139.ge HI544.out) | refine below_set ?_ GE540.out | refine below_set ?_ GE553.out) | exact HB.out)))); (case aL => have := LMc24.out; omega); intro v567 w31 ho hb hg hat; rw [← Ny566.out] at ho; have n0_ := Aside0.mk (blk_grown (g := gb540) (o := .cells #[.int .u32 0, .int .u32 0, .slice none 0 0] 83 (0, 0)) (by (with_reducible repeat (first | refine blk_drewN ?_ _ | refine blk_drew ?_ | refine blk_alloc ?_ _)); exact BK540.out) hg (Kd.R_ne HO_554002.out BK540.out (by decide))); have n1_ := Aside0.mk (blk_grown (g := gb553) (o := .cells #[.int .u32 t545, .int .u32 t549, u554002] 83 (0, 0)) (by (with_reducible repeat (first | refine blk_drewN ?_ _ | refine blk_drew ?_ | refine blk_alloc ?_ _)); exact BK553.out) hg (Kd.R_ne HO_554002.out BK553.out (by decide))); have n2_ := Aside0.mk (IsS139.grown (by repeat (first | (with_reducible first | exact HI544.out | apply IsS139.alloc | apply IsS139.drewN | apply IsS139.drew | apply IsS139.set_0 | apply IsS139.set_1 | apply IsS139.set_2 | refine IsS139.far ?_ NB544_540.out _ | refine IsS139.far ?_ NB544_553.out _) | exact HI544.out)) hg (IsS139.own_ne HI544.out HO_554002.out (by decide))); have n3_ := Aside0.mk (hb); have n4_ := Aside0.mk (ho); clear BK540; clear BK553; clear HI544; clear HB; clear HO_554002; have BK540 := n0_; have BK553 := n1_; have HI544 := n2_; have HB := n3_; have HO568 := n4_; clear n0_ n1_ n2_ n3_ n4_; clear ho hb hg hat; obtain ⟨Ao32, co32, eo32⟩ := Kd.R_slice HO568.out; subst eo32; have hcz33_0 : w31.cell? ⟨gb553, 0, none⟩ = some (.int .u32 t545) := (blk_cell BK553.out 0).trans rfl; have hcz33_1 : w31.cell? ⟨gb553, 1, none⟩ = some (.int .u32 t549) := (blk_cell BK553.out 1).trans rfl; have hcz33_2 : w31.cell? ⟨gb553, 2, none⟩ = some (u554002) := (blk_cell BK553.out 2).trans rfl; have hfz33_0 := blk_frozen BK553.out 0; have hfz33_1 := blk_frozen BK553.out 1; have hfz33_2 := blk_frozen BK553.out 2))
        go_loopg [8] k1 (fun kq v8 w' => ∃ (x8_2 : Int) (x554002_2 : List Int) (u554002 : Value), v8 = .int .i64 x8_2 ∧ Aside0 (flywheelref11_Decode.l1 kq (wrap64 (t558)) t562 x8_2 t563 t564 t565 t545 t549 x554002_2 = some (r1, r2, r3, r4)) ∧ Aside0 (kq ≤ k1) ∧ Aside0 (Kd.R (Kd.int .i64) 3 w' w.heap.size (fun _ => True) u554002 x554002_2) ∧ Aside0 (w'.heap[gb540]? = some (.cells #[.int .u32 0, .int .u32 0, (.slice none 0 0)] 83 (0, 0))) ∧ Aside0 (w'.heap[gb553]? = some (.cells #[.int .u32 t545, .int .u32 t549, u554002] 83 (0, 0))) ∧ Aside0 (IsS139 w w' g544 t563 t564 t565) ∧ Aside0 (Below w.heap.size w w'))
        case atStart => exact ⟨(0), (y566), (.slice Ao32 y566.length co32), (by first | rfl | (simp; done) | (simp [*]; done)), H', ⟨Nat.le_refl _⟩, ⟨by (with_reducible repeat (first | apply Kd.R_alloc | apply Kd.R_drewN | apply Kd.R_drew)); exact Kd.R_mono (Kd.R_far (p := ⟨gb553, 2, none⟩) (Kd.R_types HO568.out BK553.out (by decide)) (fun _ hk => hk.2) (.slice Ao32 y566.length co32)) (fun _ hk => trivial)⟩, ⟨by (with_reducible repeat (first | refine blk_drewN ?_ _ | refine blk_drew ?_ | refine blk_alloc ?_ _)); refine blk_far ?_ NB540_553.out _; (with_reducible repeat (first | refine blk_drewN ?_ _ | refine blk_drew ?_ | refine blk_alloc ?_ _)); exact BK540.out⟩, ⟨by (with_reducible repeat (first | refine blk_drewN ?_ _ | refine blk_drew ?_ | refine blk_alloc ?_ _)); refine blk_put (cs := #[.int .u32 t545, .int .u32 t549, u554002]) ?_ 2 _ rfl; (with_reducible repeat (first | refine blk_drewN ?_ _ | refine blk_drew ?_ | refine blk_alloc ?_ _)); exact BK553.out⟩, ⟨by repeat (first | (with_reducible first | exact HI544.out | apply IsS139.alloc | apply IsS139.drewN | apply IsS139.drew | apply IsS139.set_0 | apply IsS139.set_1 | apply IsS139.set_2 | refine IsS139.far ?_ NB544_540.out _ | refine IsS139.far ?_ NB544_553.out _) | exact HI544.out)⟩, ⟨by repeat (first | (with_reducible first | exact HB.out | apply below_alloc | apply pw_below_drewN | apply below_drew1 | refine below_set ?_ (IsS139.ge HI544.out) | refine below_set ?_ GE540.out | refine below_set ?_ GE553.out) | exact HB.out)⟩⟩
        case round =>
         clear H'
         try clear c1
         try clear c2
         try clear c2b0
         try clear c2b1
         try clear p2
         try clear c4
         try clear c5
         try clear c5b0
         try clear c5b1
         try clear c6
         try clear c6b0
         try clear c6b1
         try clear p6
         try clear c17
         try clear c18
         try clear c21
         try clear c21b0
         try clear c24
         try clear c26
         try clear c28
         try clear c29
         try clear hcz19_0
         try clear hcz19_1
         try clear hcz19_2
         try clear hcz30_0
         try clear hcz30_1
         try clear hcz30_2
         try clear hcz33_0
         try clear hcz33_1
         try clear hcz33_2
         try clear hcz4_0
         try clear hcz4_1
         try clear hcz4_2
         try clear hcz8_0
         try clear hcz8_1
         try clear hcz8_2
         try clear hfz19_0
         try clear hfz19_1
         try clear hfz19_2
         try clear hfz30_0
         try clear hfz30_1
         try clear hfz30_2
         try clear hfz33_0
         try clear hfz33_1
         try clear hfz33_2
         try clear hfz4_0
         try clear hfz4_1
         try clear hfz4_2
         try clear hfz8_0
         try clear hfz8_1
         try clear hfz8_2
         try clear p2
         obtain ⟨x8_2, x554002_2, u554002, rfl, HA, HK2, HO_554002, BK540, BK553, HI544, HB⟩ := hrel
         cases gk with
         | zero => exact absurd HA.out (by simp [flywheelref11_Decode.l1])
         | succ k2 =>
          have H := HA.out
          clear HA
          simp only [flywheelref11_Decode.l1] at H
          by_cases c34 : x8_2 < 16
          ·rw [if_pos c34] at H
           have c34b0 : decide (x8_2 < 16) = true := decide_eq_true c34
           clear c34
           obtain ⟨ji35, hji35⟩ : ∃ j_ : Int, (IntKind.u64.wrap (x8_2)) = j_ := ⟨_, rfl⟩
           replace H : (if 0 ≤ (ji35) then (if (Go.bits .and .u32 (shr .u32 t562 (ji35)) 1) = 1 then (if x554002_2.length < 17592186044416 then (flywheelref11_Decode.l1 k2 (wrap64 (t558)) t562 (wrap64 (x8_2 + 1)) t563 t564 t565 t545 t549 (x554002_2 ++ [Int.tmod (wrap64 ((wrap64 ((wrap64 (t558)) + x8_2)) + 1)) 65536])) else (none)) else (flywheelref11_Decode.l1 k2 (wrap64 (t558)) t562 (wrap64 (x8_2 + 1)) t563 t564 t565 t545 t549 x554002_2)) else (none)) = some (r1, r2, r3, r4) := by first | (rw [hji35] at H; exact H) | (simp only [hji35] at H ⊢; exact H)
           by_cases c36 : 0 ≤ (ji35)
           ·rw [if_pos c36] at H
            have c36b0 := eq_true c36
            have c36b1 : decide (0 ≤ (ji35)) = true := decide_eq_true c36
            clear c36
            obtain ⟨ji37, hji37⟩ : ∃ j_ : Int, (shr .u32 t562 (ji35)) = j_ := ⟨_, rfl⟩
            replace H : (if (Go.bits .and .u32 (ji37) 1) = 1 then (if x554002_2.length < 17592186044416 then (flywheelref11_Decode.l1 k2 (wrap64 (t558)) t562 (wrap64 (x8_2 + 1)) t563 t564 t565 t545 t549 (x554002_2 ++ [Int.tmod (wrap64 ((wrap64 ((wrap64 (t558)) + x8_2)) + 1)) 65536])) else (none)) else (flywheelref11_Decode.l1 k2 (wrap64 (t558)) t562 (wrap64 (x8_2 + 1)) t563 t564 t565 t545 t549 x554002_2)) = some (r1, r2, r3, r4) := by first | (rw [hji37] at H; exact H) | (simp only [hji37] at H ⊢; exact H)
            have hji37_ : (t562 / 2 ^ min (ji35).toNat 32) = ji37 := hji37
            have hji37z : (ji35) ≤ 32 → (t562 / 2 ^ (ji35).toNat) = ji37 := shr_small hji37
            by_cases c38 : (Go.bits .and .u32 (ji37) 1) = 1
            ·rw [if_pos c38] at H
             have c38b0 : ((Go.bits .and .u32 (ji37) 1) == 1) = true := beq_iff_eq.mpr c38
             have c38b1 : ((Go.bits .and .u32 (ji37) 1) != 1) = false := bne_eq_false_iff_eq.mpr c38
             clear c38
             by_cases c39 : x554002_2.length < 17592186044416
             ·rw [if_pos c39] at H
              have LMc39 := Aside0.mk c39
              clear c39
              obtain ⟨y569, hy569⟩ : ∃ y_ : List Int, y_ = (x554002_2 ++ [Int.tmod (wrap64 ((wrap64 ((wrap64 (t558)) + x8_2)) + 1)) 65536]) := ⟨_, rfl⟩
              replace H : (flywheelref11_Decode.l1 k2 (wrap64 (t558)) t562 (wrap64 (x8_2 + 1)) t563 t564 t565 t545 t549 y569) = some (r1, r2, r3, r4) := by first | (rw [hy569]; with_reducible exact H) | (have H2_ := (Option.bind_some _ _).symm.trans H; rw [hy569]; with_reducible exact H2_) | (have H2_ := (Option.bind_some _ _).symm.trans H; with_reducible exact H2_) | with_reducible exact H | (rw [hy569]; exact H) | exact H
              have Ny569 := Aside0.mk hy569
              clear hy569
              have H' := Aside0.mk H
              clear H
              have hnb40 := NB553_540.out
              have hnc40 := NB540_553.out
              have hnb41 := NB553_544.out
              have hnc41 := NB544_553.out
              have hcz42_0 : wr.cell? ⟨gb553, 0, none⟩ = some (.int .u32 t545) := (blk_cell BK553.out 0).trans rfl
              have hcz42_1 : wr.cell? ⟨gb553, 1, none⟩ = some (.int .u32 t549) := (blk_cell BK553.out 1).trans rfl
              have hcz42_2 : wr.cell? ⟨gb553, 2, none⟩ = some (u554002) := (blk_cell BK553.out 2).trans rfl
              have hfz42_0 := blk_frozen BK553.out 0
              have hfz42_1 := blk_frozen BK553.out 1
              have hfz42_2 := blk_frozen BK553.out 2
              go_wp2_with (first | ((with_reducible refine gate_builtin (b := .append) (xs := #[.tmp 54, .tmp 60]) rfl ?_); at_builtin; refine Kd.R_append (Kd.int .i64) (w0 := w) w.heap.size rfl (.tmp 54) (.tmp 60) 24 3 (.int .i64 0) 8 rfl Try.underlying24 info3 rfl (by decide) (by omega) u554002 x554002_2 (Int.tmod (wrap64 ((wrap64 ((wrap64 (t558)) + x8_2)) + 1)) 65536) [.int .i64 (Int.tmod (wrap64 ((wrap64 ((wrap64 (t558)) + x8_2)) + 1)) 65536)] (fun _ => True) (fun _ => False) rfl rfl ?aP (fun _ hk => hk.elim) ?aF ?aO ?aB ?aS ?aL ?_; (case aP => exact rfl); (case aB => exact (by repeat (first | (with_reducible first | exact HB.out | apply below_alloc | apply pw_below_drewN | apply below_drew1 | refine below_set ?_ (IsS139.ge HI544.out) | refine below_set ?_ GE540.out | refine below_set ?_ GE553.out) | exact HB.out))); (case aF => exact (fun _ _ => trivial)); (case aO => exact (by (with_reducible repeat (first | apply Kd.R_alloc | apply Kd.R_drewN | apply Kd.R_drew)); exact HO_554002.out)); (case aS => exact (below_size (by repeat (first | (with_reducible first | exact HB.out | apply below_alloc | apply pw_below_drewN | apply below_drew1 | refine below_set ?_ (IsS139.ge HI544.out) | refine below_set ?_ GE540.out | refine below_set ?_ GE553.out) | exact HB.out)))); (case aL => have := LMc39.out; omega); intro v570 w43 ho hb hg hat; rw [← Ny569.out] at ho; have n0_ := Aside0.mk (blk_grown (g := gb540) (o := .cells #[.int .u32 0, .int .u32 0, .slice none 0 0] 83 (0, 0)) (by (with_reducible repeat (first | refine blk_drewN ?_ _ | refine blk_drew ?_ | refine blk_alloc ?_ _)); exact BK540.out) hg (Kd.R_ne HO_554002.out BK540.out (by decide))); have n1_ := Aside0.mk (blk_grown (g := gb553) (o := .cells #[.int .u32 t545, .int .u32 t549, u554002] 83 (0, 0)) (by (with_reducible repeat (first | refine blk_drewN ?_ _ | refine blk_drew ?_ | refine blk_alloc ?_ _)); exact BK553.out) hg (Kd.R_ne HO_554002.out BK553.out (by decide))); have n2_ := Aside0.mk (IsS139.grown (by repeat (first | (with_reducible first | exact HI544.out | apply IsS139.alloc | apply IsS139.drewN | apply IsS139.drew | apply IsS139.set_0 | apply IsS139.set_1 | apply IsS139.set_2 | refine IsS139.far ?_ NB544_540.out _ | refine IsS139.far ?_ NB544_553.out _) | exact HI544.out)) hg (IsS139.own_ne HI544.out HO_554002.out (by decide))); have n3_ := Aside0.mk (hb); have n4_ := Aside0.mk (ho); clear BK540; clear BK553; clear HI544; clear HB; clear HO_554002; have BK540 := n0_; have BK553 := n1_; have HI544 := n2_; have HB := n3_; have HO571 := n4_; clear n0_ n1_ n2_ n3_ n4_; clear ho hb hg hat; obtain ⟨Ao44, co44, eo44⟩ := Kd.R_slice HO571.out; subst eo44; have hcz45_0 : w43.cell? ⟨gb553, 0, none⟩ = some (.int .u32 t545) := (blk_cell BK553.out 0).trans rfl; have hcz45_1 : w43.cell? ⟨gb553, 1, none⟩ = some (.int .u32 t549) := (blk_cell BK553.out 1).trans rfl; have hcz45_2 : w43.cell? ⟨gb553, 2, none⟩ = some (u554002) := (blk_cell BK553.out 2).trans rfl; have hfz45_0 := blk_frozen BK553.out 0; have hfz45_1 := blk_frozen BK553.out 1; have hfz45_2 := blk_frozen BK553.out 2))
              go_roundg k2
              case measure => have := HK1.out; have := HK2.out; omega
              case rel => exact ⟨(wrap64 (x8_2 + 1)), (y569), (.slice Ao44 y569.length co44), (by first | rfl | (simp; done) | (simp [*]; done)), H', ⟨by have := HK1.out; have := HK2.out; omega⟩, ⟨by (with_reducible repeat (first | apply Kd.R_alloc | apply Kd.R_drewN | apply Kd.R_drew)); exact Kd.R_mono (Kd.R_far (p := ⟨gb553, 2, none⟩) (Kd.R_types HO571.out BK553.out (by decide)) (fun _ hk => hk.2) (.slice Ao44 y569.length co44)) (fun _ hk => trivial)⟩, ⟨by (with_reducible repeat (first | refine blk_drewN ?_ _ | refine blk_drew ?_ | refine blk_alloc ?_ _)); refine blk_far ?_ NB540_553.out _; (with_reducible repeat (first | refine blk_drewN ?_ _ | refine blk_drew ?_ | refine blk_alloc ?_ _)); exact BK540.out⟩, ⟨by (with_reducible repeat (first | refine blk_drewN ?_ _ | refine blk_drew ?_ | refine blk_alloc ?_ _)); refine blk_put (cs := #[.int .u32 t545, .int .u32 t549, u554002]) ?_ 2 _ rfl; (with_reducible repeat (first | refine blk_drewN ?_ _ | refine blk_drew ?_ | refine blk_alloc ?_ _)); exact BK553.out⟩, ⟨by repeat (first | (with_reducible first | exact HI544.out | apply IsS139.alloc | apply IsS139.drewN | apply IsS139.drew | apply IsS139.set_0 | apply IsS139.set_1 | apply IsS139.set_2 | refine IsS139.far ?_ NB544_540.out _ | refine IsS139.far ?_ NB544_553.out _) | exact HI544.out)⟩, ⟨by repeat (first | (with_reducible first | exact HB.out | apply below_alloc | apply pw_below_drewN | apply below_drew1 | refine below_set ?_ (IsS139.ge HI544.out) | refine below_set ?_ GE540.out | refine below_set ?_ GE553.out) | exact HB.out)⟩⟩
             ·rw [if_neg c39] at H
              exact absurd H (by simp)
            ·rw [if_neg c38] at H
             have c38b0 : ((Go.bits .and .u32 (ji37) 1) == 1) = false := beq_eq_false_iff_ne.mpr c38
             have c38b1 : ((Go.bits .and .u32 (ji37) 1) != 1) = true := bne_iff_ne.mpr c38
             have H' := Aside0.mk H
             clear H
             go_wp2
             go_roundg k2
             case measure => have := HK1.out; have := HK2.out; omega
             case rel => exact ⟨(wrap64 (x8_2 + 1)), (x554002_2), (u554002), (by first | rfl | (simp; done) | (simp [*]; done)), H', ⟨by have := HK1.out; have := HK2.out; omega⟩, ⟨by (with_reducible repeat (first | apply Kd.R_alloc | apply Kd.R_drewN | apply Kd.R_drew)); exact HO_554002.out⟩, ⟨by (with_reducible repeat (first | refine blk_drewN ?_ _ | refine blk_drew ?_ | refine blk_alloc ?_ _)); exact BK540.out⟩, ⟨by (with_reducible repeat (first | refine blk_drewN ?_ _ | refine blk_drew ?_ | refine blk_alloc ?_ _)); exact BK553.out⟩, ⟨by repeat (first | (with_reducible first | exact HI544.out | apply IsS139.alloc | apply IsS139.drewN | apply IsS139.drew | apply IsS139.set_0 | apply IsS139.set_1 | apply IsS139.set_2 | refine IsS139.far ?_ NB544_540.out _ | refine IsS139.far ?_ NB544_553.out _) | exact HI544.out)⟩, ⟨by repeat (first | (with_reducible first | exact HB.out | apply below_alloc | apply pw_below_drewN | apply below_drew1 | refine below_set ?_ (IsS139.ge HI544.out) | refine below_set ?_ GE540.out | refine below_set ?_ GE553.out) | exact HB.out)⟩⟩
           ·rw [if_neg c36] at H
            exact absurd H (by simp)
          ·rw [if_neg c34] at H
           have c34b0 : decide (x8_2 < 16) = false := decide_eq_false c34
           clear c34
           have H' := Aside0.mk H
           clear H
           go_wp2
           go_roundg k2
           case measure => have := HK1.out; have := HK2.out; omega
           case rel => exact ⟨(t563), (t564), (t565), (x554002_2), (u554002), H', ⟨by have := HK1.out; have := HK2.out; omega⟩, ⟨by (with_reducible repeat (first | apply Kd.R_alloc | apply Kd.R_drewN | apply Kd.R_drew)); exact HO_554002.out⟩, ⟨by (with_reducible repeat (first | refine blk_drewN ?_ _ | refine blk_drew ?_ | refine blk_alloc ?_ _)); exact BK540.out⟩, ⟨by (with_reducible repeat (first | refine blk_drewN ?_ _ | refine blk_drew ?_ | refine blk_alloc ?_ _)); exact BK553.out⟩, ⟨by repeat (first | (with_reducible first | exact HI544.out | apply IsS139.alloc | apply IsS139.drewN | apply IsS139.drew | apply IsS139.set_0 | apply IsS139.set_1 | apply IsS139.set_2 | refine IsS139.far ?_ NB544_540.out _ | refine IsS139.far ?_ NB544_553.out _) | exact HI544.out)⟩, ⟨by repeat (first | (with_reducible first | exact HB.out | apply below_alloc | apply pw_below_drewN | apply below_drew1 | refine below_set ?_ (IsS139.ge HI544.out) | refine below_set ?_ GE540.out | refine below_set ?_ GE553.out) | exact HB.out)⟩⟩
       ·rw [if_neg c24] at H
        exact absurd H (by simp)
      ·rw [if_neg c21] at H
       have c21b0 : decide (0 < t554) = false := decide_eq_false c21
       clear c21
       by_cases c46 : (x554002_1.length : Int) > 4096
       ·rw [if_pos c46] at H
        have c46b0 : decide (4096 < (x554002_1.length : Int)) = true := decide_eq_true c46
        have c46b1 : decide (4096 < x554002_1.length) = true := decide_eq_true (by omega)
        clear c46
        simp only [Option.some.injEq, Prod.mk.injEq] at H
        obtain ⟨rfl, rfl, rfl, rfl⟩ := H
        go_wp2_with (first | ((with_reducible refine gate_callee (f := 48) rfl ?_); refine goesL_ (some 30) rfl rfl Try.func48 (by kernel_rfl) rfl #[.pointer (some ⟨g544, 0, none⟩)] rfl (by (try simp only [List.map_toArray, List.map_cons, List.map_nil]); first | done | rfl | (simp only [List.length_drop, List.length_take]; rfl)) ?_; (with_reducible refine (flywheelref06_Reader_Left.calls g544 x545000_1 x545001_1 x545002_1 t554 t555 t556 t557 w _ ?side1 ?side2 A20.out).mono ?_); (case side1 => repeat (first | (with_reducible first | exact HI544.out | apply IsS139.alloc | apply IsS139.drewN | apply IsS139.drew | apply IsS139.set_0 | apply IsS139.set_1 | apply IsS139.set_2 | refine IsS139.far ?_ NB544_540.out _ | refine IsS139.far ?_ NB544_553.out _) | exact HI544.out)); (case side2 => repeat (first | (with_reducible first | exact HB.out | apply below_alloc | apply pw_below_drewN | apply below_drew1 | refine below_set ?_ (IsS139.ge HI544.out) | refine below_set ?_ GE540.out | refine below_set ?_ GE553.out) | exact HB.out)); rintro e w47 ⟨rfl, hi, hb, hk⟩; refine ⟨_, rfl, ?_⟩; have n0_ := Aside0.mk (Kd.R_mono (Kd.R_keep (IsS139.apart (show IsS139 w _ g544 x545000_1 x545001_1 x545002_1 from by repeat (first | (with_reducible first | exact HI544.out | apply IsS139.alloc | apply IsS139.drewN | apply IsS139.drew | apply IsS139.set_0 | apply IsS139.set_1 | apply IsS139.set_2 | refine IsS139.far ?_ NB544_540.out _ | refine IsS139.far ?_ NB544_553.out _) | exact HI544.out)) (by (with_reducible repeat (first | apply Kd.R_alloc | apply Kd.R_drewN | apply Kd.R_drew)); exact HO_554002.out) (by decide)) hk (fun _ h => h.2)) (fun _ h => h.1)); have n1_ := Aside0.mk (KeepBut.blk hk (g' := gb540) (o := .cells #[.int .u32 0, .int .u32 0, .slice none 0 0] 83 (0, 0)) (by (with_reducible repeat (first | refine blk_drewN ?_ _ | refine blk_drew ?_ | refine blk_alloc ?_ _)); exact BK540.out) NB540_544.out (by simp)); have n2_ := Aside0.mk (KeepBut.blk hk (g' := gb553) (o := .cells #[.int .u32 t545, .int .u32 t549, u554002] 83 (0, 0)) (by (with_reducible repeat (first | refine blk_drewN ?_ _ | refine blk_drew ?_ | refine blk_alloc ?_ _)); exact BK553.out) NB553_544.out (by simp)); have n3_ := Aside0.mk (hb); have n4_ := Aside0.mk (hi); clear HO_554002; clear BK540; clear BK553; clear HB; clear HI544; have HO_554002 := n0_; have BK540 := n1_; have BK553 := n2_; have HB := n3_; have HI544 := n4_; clear n0_ n1_ n2_ n3_ n4_; (try clear hb); (try clear hb2); (try clear hk); (try clear hi); have hnb48 := NB553_540.out; have hnc48 := NB540_553.out; have hnb49 := NB553_544.out; have hnc49 := NB544_553.out; have hcz50_0 : w47.cell? ⟨gb553, 0, none⟩ = some (.int .u32 t545) := (blk_cell BK553.out 0).trans rfl; have hcz50_1 : w47.cell? ⟨gb553, 1, none⟩ = some (.int .u32 t549) := (blk_cell BK553.out 1).trans rfl; have hcz50_2 : w47.cell? ⟨gb553, 2, none⟩ = some (u554002) := (blk_cell BK553.out 2).trans rfl; have hfz50_0 := blk_frozen BK553.out 0; have hfz50_1 := blk_frozen BK553.out 1; have hfz50_2 := blk_frozen BK553.out 2; obtain ⟨Ao51, co51, eo51⟩ := Kd.R_slice HO_554002.out; subst eo51; have hnb52 := NB540_544.out; have hnc52 := NB544_540.out; have hcz53_0 : w47.cell? ⟨gb540, 0, none⟩ = some (.int .u32 0) := (blk_cell BK540.out 0).trans rfl; have hcz53_1 : w47.cell? ⟨gb540, 1, none⟩ = some (.int .u32 0) := (blk_cell BK540.out 1).trans rfl; have hcz53_2 : w47.cell? ⟨gb540, 2, none⟩ = some (.slice none 0 0) := (blk_cell BK540.out 2).trans rfl; have hfz53_0 := blk_frozen BK540.out 0; have hfz53_1 := blk_frozen BK540.out 1; have hfz53_2 := blk_frozen BK540.out 2))
        refine bodyPost_ret (results_ct rfl _ _ gb540 83 #[.int .u32 0, .int .u32 0, .slice none 0 0] (0, 0) _ rfl (by (with_reducible repeat (first | refine blk_drewN ?_ _ | refine blk_drew ?_ | refine blk_alloc ?_ _)); refine blk_put (cs := #[.int .u32 0, .int .u32 0, .slice none 0 0]) ?_ 2 _ rfl; (with_reducible repeat (first | refine blk_drewN ?_ _ | refine blk_drew ?_ | refine blk_alloc ?_ _)); refine blk_put (cs := #[.int .u32 0, .int .u32 0, .slice none 0 0]) ?_ 1 _ rfl; (with_reducible repeat (first | refine blk_drewN ?_ _ | refine blk_drew ?_ | refine blk_alloc ?_ _)); refine blk_put (cs := #[.int .u32 0, .int .u32 0, .slice none 0 0]) ?_ 0 _ rfl; (with_reducible repeat (first | refine blk_drewN ?_ _ | refine blk_drew ?_ | refine blk_alloc ?_ _)); exact BK540.out) Try.underlying83 rfl (by kernel_rfl)) rfl ?_
        exact ⟨_, by first | rfl | (simp [errW_none, errW_some] <;> rfl) | (simp [*, errW_none, errW_some] <;> rfl), by first | exact Kd.R_nil _ _ _ _ _ | exact Kd.N_nil _ _ _ _ _ | exact Kd.V_nil _ _ _ _ _ | exact Kd.Q_nil _ _ _ _ _ | exact Kd.S_nil _ _ _ _ _, by repeat (first | (with_reducible first | exact HB.out | apply below_alloc | apply pw_below_drewN | apply below_drew1 | refine below_set ?_ (IsS139.ge HI544.out) | refine below_set ?_ GE540.out | refine below_set ?_ GE553.out) | exact HB.out)⟩
       ·rw [if_neg c46] at H
        have c46b0 : decide (4096 < (x554002_1.length : Int)) = false := decide_eq_false c46
        have c46b1 : decide (4096 < x554002_1.length) = false := decide_eq_false (by omega)
        clear c46
        replace H := Option.bind_eq_some_iff.mp H
        obtain ⟨t572, A540, H⟩ := H
        replace H : (if t572 = true then (some (t545, t549, x554002_1, 0)) else (some (0, 0, ([] : List Int), 110))) = some (r1, r2, r3, r4) := H
        have A54 := Aside0.mk A540
        clear A540
        by_cases c55 : t572 = true
        ·subst c55
         have H1 : (some (t545, t549, x554002_1, 0)) = some (r1, r2, r3, r4) := by rw [if_pos rfl] at H; exact H
         clear H
         have H := H1
         clear H1
         simp only [Option.some.injEq, Prod.mk.injEq] at H
         obtain ⟨rfl, rfl, rfl, rfl⟩ := H
         go_wp2_with (first | ((with_reducible refine gate_callee (f := 48) rfl ?_); refine goesL_ (some 30) rfl rfl Try.func48 (by kernel_rfl) rfl #[.pointer (some ⟨g544, 0, none⟩)] rfl (by (try simp only [List.map_toArray, List.map_cons, List.map_nil]); first | done | rfl | (simp only [List.length_drop, List.length_take]; rfl)) ?_; (with_reducible refine (flywheelref06_Reader_Left.calls g544 x545000_1 x545001_1 x545002_1 t554 t555 t556 t557 w _ ?side1 ?side2 A20.out).mono ?_); (case side1 => repeat (first | (with_reducible first | exact HI544.out | apply IsS139.alloc | apply IsS139.drewN | apply IsS139.drew | apply IsS139.set_0 | apply IsS139.set_1 | apply IsS139.set_2 | refine IsS139.far ?_ NB544_540.out _ | refine IsS139.far ?_ NB544_553.out _) | exact HI544.out)); (case side2 => repeat (first | (with_reducible first | exact HB.out | apply below_alloc | apply pw_below_drewN | apply below_drew1 | refine below_set ?_ (IsS139.ge HI544.out) | refine below_set ?_ GE540.out | refine below_set ?_ GE553.out) | exact HB.out)); rintro e w56 ⟨rfl, hi, hb, hk⟩; refine ⟨_, rfl, ?_⟩; have n0_ := Aside0.mk (Kd.R_mono (Kd.R_keep (IsS139.apart (show IsS139 w _ g544 x545000_1 x545001_1 x545002_1 from by repeat (first | (with_reducible first | exact HI544.out | apply IsS139.alloc | apply IsS139.drewN | apply IsS139.drew | apply IsS139.set_0 | apply IsS139.set_1 | apply IsS139.set_2 | refine IsS139.far ?_ NB544_540.out _ | refine IsS139.far ?_ NB544_553.out _) | exact HI544.out)) (by (with_reducible repeat (first | apply Kd.R_alloc | apply Kd.R_drewN | apply Kd.R_drew)); exact HO_554002.out) (by decide)) hk (fun _ h => h.2)) (fun _ h => h.1)); have n1_ := Aside0.mk (KeepBut.blk hk (g' := gb540) (o := .cells #[.int .u32 0, .int .u32 0, .slice none 0 0] 83 (0, 0)) (by (with_reducible repeat (first | refine blk_drewN ?_ _ | refine blk_drew ?_ | refine blk_alloc ?_ _)); exact BK540.out) NB540_544.out (by simp)); have n2_ := Aside0.mk (KeepBut.blk hk (g' := gb553) (o := .cells #[.int .u32 t545, .int .u32 t549, u554002] 83 (0, 0)) (by (with_reducible repeat (first | refine blk_drewN ?_ _ | refine blk_drew ?_ | refine blk_alloc ?_ _)); exact BK553.out) NB553_544.out (by simp)); have n3_ := Aside0.mk (hb); have n4_ := Aside0.mk (hi); clear HO_554002; clear BK540; clear BK553; clear HB; clear HI544; have HO_554002 := n0_; have BK540 := n1_; have BK553 := n2_; have HB := n3_; have HI544 := n4_; clear n0_ n1_ n2_ n3_ n4_; (try clear hb); (try clear hb2); (try clear hk); (try clear hi); have hnb57 := NB553_540.out; have hnc57 := NB540_553.out; have hnb58 := NB553_544.out; have hnc58 := NB544_553.out; have hcz59_0 : w56.cell? ⟨gb553, 0, none⟩ = some (.int .u32 t545) := (blk_cell BK553.out 0).trans rfl; have hcz59_1 : w56.cell? ⟨gb553, 1, none⟩ = some (.int .u32 t549) := (blk_cell BK553.out 1).trans rfl; have hcz59_2 : w56.cell? ⟨gb553, 2, none⟩ = some (u554002) := (blk_cell BK553.out 2).trans rfl; have hfz59_0 := blk_frozen BK553.out 0; have hfz59_1 := blk_frozen BK553.out 1; have hfz59_2 := blk_frozen BK553.out 2; obtain ⟨Ao60, co60, eo60⟩ := Kd.R_slice HO_554002.out; subst eo60) | ((with_reducible refine gate_callee (f := 55) rfl ?_); refine goesL_ (some 70) rfl rfl Try.func55 (by kernel_rfl) rfl #[.slice Ao60 x554002_1.length co60] rfl (by (try simp only [List.map_toArray, List.map_cons, List.map_nil]); first | done | rfl | (simp only [List.length_drop, List.length_take]; rfl)) ?_; (with_reducible refine (flywheelref11_Good.calls _ _ x554002_1 true _ ?side1 ?side2 A54.out).mono ?_); (case side1 => repeat (first | exact (Kd.R_reads' HO_554002.out).2.2 | (with_reducible refine Kd.C_alloc ?_ _) | (with_reducible refine Kd.C_drewN ?_ _) | (with_reducible refine Kd.C_drew ?_))); (case side2 => exact (Kd.R_reads' HO_554002.out).2.1); rintro e w' ⟨rfl, ⟨nd, rfl⟩⟩; refine ⟨_, rfl, ?_⟩; (try (rw [drewN_self w56]; generalize hq_ : World.drewN w56 _ = w56; have n0_ : Aside0 (Kd.R (Kd.int .i64) 3 w56 w.heap.size (fun _ => True) (.slice Ao60 x554002_1.length co60) x554002_1) := ⟨by rw [← hq_]; exact (by (with_reducible repeat (first | apply Kd.R_alloc | apply Kd.R_drewN | apply Kd.R_drew)); exact HO_554002.out)⟩; have n1_ : Aside0 (w56.heap[gb540]? = some (.cells #[.int .u32 0, .int .u32 0, .slice none 0 0] 83 (0, 0))) := ⟨by rw [← hq_]; exact (by (with_reducible repeat (first | refine blk_drewN ?_ _ | refine blk_drew ?_ | refine blk_alloc ?_ _)); exact BK540.out)⟩; have n2_ : Aside0 (w56.heap[gb553]? = some (.cells #[.int .u32 t545, .int .u32 t549, .slice Ao60 x554002_1.length co60] 83 (0, 0))) := ⟨by rw [← hq_]; exact (by (with_reducible repeat (first | refine blk_drewN ?_ _ | refine blk_drew ?_ | refine blk_alloc ?_ _)); exact BK553.out)⟩; have n3_ : Aside0 (IsS139 w w56 g544 t555 t556 t557) := ⟨by rw [← hq_]; exact (by repeat (first | (with_reducible first | exact HI544.out | apply IsS139.alloc | apply IsS139.drewN | apply IsS139.drew | apply IsS139.set_0 | apply IsS139.set_1 | apply IsS139.set_2 | refine IsS139.far ?_ NB544_540.out _ | refine IsS139.far ?_ NB544_553.out _) | exact HI544.out))⟩; have n4_ : Aside0 (Below w.heap.size w w56) := ⟨by rw [← hq_]; exact (by repeat (first | (with_reducible first | exact HB.out | apply below_alloc | apply pw_below_drewN | apply below_drew1 | refine below_set ?_ (IsS139.ge HI544.out) | refine below_set ?_ GE540.out | refine below_set ?_ GE553.out) | exact HB.out))⟩; clear HO_554002 BK540 BK553 HI544 HB hq_; have HO_554002 := n0_; have BK540 := n1_; have BK553 := n2_; have HI544 := n3_; have HB := n4_; clear n0_ n1_ n2_ n3_ n4_)); have hcz61_0 : w56.cell? ⟨gb553, 0, none⟩ = some (.int .u32 t545) := (blk_cell BK553.out 0).trans rfl; have hcz61_1 : w56.cell? ⟨gb553, 1, none⟩ = some (.int .u32 t549) := (blk_cell BK553.out 1).trans rfl; have hcz61_2 : w56.cell? ⟨gb553, 2, none⟩ = some (.slice Ao60 x554002_1.length co60) := (blk_cell BK553.out 2).trans rfl; have hfz61_0 := blk_frozen BK553.out 0; have hfz61_1 := blk_frozen BK553.out 1; have hfz61_2 := blk_frozen BK553.out 2; have hnb62 := NB540_544.out; have hnc62 := NB544_540.out; have hcz63_0 : w56.cell? ⟨gb540, 0, none⟩ = some (.int .u32 0) := (blk_cell BK540.out 0).trans rfl; have hcz63_1 : w56.cell? ⟨gb540, 1, none⟩ = some (.int .u32 0) := (blk_cell BK540.out 1).trans rfl; have hcz63_2 : w56.cell? ⟨gb540, 2, none⟩ = some (.slice none 0 0) := (blk_cell BK540.out 2).trans rfl; have hfz63_0 := blk_frozen BK540.out 0; have hfz63_1 := blk_frozen BK540.out 1; have hfz63_2 := blk_frozen BK540.out 2))
         refine bodyPost_ret (results_ct rfl _ _ gb540 83 #[.int .u32 t545, .int .u32 t549, .slice Ao60 x554002_1.length co60] (0, 0) _ rfl (by (with_reducible repeat (first | refine blk_drewN ?_ _ | refine blk_drew ?_ | refine blk_alloc ?_ _)); refine blk_put (cs := #[.int .u32 t545, .int .u32 t549, .slice none 0 0]) ?_ 2 _ rfl; (with_reducible repeat (first | refine blk_drewN ?_ _ | refine blk_drew ?_ | refine blk_alloc ?_ _)); refine blk_put (cs := #[.int .u32 t545, .int .u32 0, .slice none 0 0]) ?_ 1 _ rfl; (with_reducible repeat (first | refine blk_drewN ?_ _ | refine blk_drew ?_ | refine blk_alloc ?_ _)); refine blk_put (cs := #[.int .u32 0, .int .u32 0, .slice none 0 0]) ?_ 0 _ rfl; (with_reducible repeat (first | refine blk_drewN ?_ _ | refine blk_drew ?_ | refine blk_alloc ?_ _)); exact BK540.out) Try.underlying83 rfl (by kernel_rfl)) rfl ?_
         exact ⟨_, by first | rfl | (simp [errW_none, errW_some] <;> rfl) | (simp [*, errW_none, errW_some] <;> rfl), by (with_reducible repeat (first | apply Kd.R_alloc | apply Kd.R_drewN | apply Kd.R_drew)); exact Kd.R_mono (Kd.R_far (p := ⟨gb540, 2, none⟩) (Kd.R_far (p := ⟨gb540, 1, none⟩) (Kd.R_far (p := ⟨gb540, 0, none⟩) (Kd.R_types HO_554002.out BK540.out (by decide)) (fun _ hk => hk.2) (.int .u32 t545)) (fun _ hk => hk.2) (.int .u32 t549)) (fun _ hk => hk.2) (.slice Ao60 x554002_1.length co60)) (fun _ hk => trivial), by repeat (first | (with_reducible first | exact HB.out | apply below_alloc | apply pw_below_drewN | apply below_drew1 | refine below_set ?_ (IsS139.ge HI544.out) | refine below_set ?_ GE540.out | refine below_set ?_ GE553.out) | exact HB.out)⟩
        ·replace c55 := Bool.eq_false_iff.mpr c55
         subst c55
         have H1 : (some (0, 0, ([] : List Int), 110)) = some (r1, r2, r3, r4) := by rw [if_neg (show ¬ (false = true) by decide)] at H; exact H
         clear H
         have H := H1
         clear H1
         simp only [Option.some.injEq, Prod.mk.injEq] at H
         obtain ⟨rfl, rfl, rfl, rfl⟩ := H
         go_wp2_with (first | ((with_reducible refine gate_callee (f := 48) rfl ?_); refine goesL_ (some 30) rfl rfl Try.func48 (by kernel_rfl) rfl #[.pointer (some ⟨g544, 0, none⟩)] rfl (by (try simp only [List.map_toArray, List.map_cons, List.map_nil]); first | done | rfl | (simp only [List.length_drop, List.length_take]; rfl)) ?_; (with_reducible refine (flywheelref06_Reader_Left.calls g544 x545000_1 x545001_1 x545002_1 t554 t555 t556 t557 w _ ?side1 ?side2 A20.out).mono ?_); (case side1 => repeat (first | (with_reducible first | exact HI544.out | apply IsS139.alloc | apply IsS139.drewN | apply IsS139.drew | apply IsS139.set_0 | apply IsS139.set_1 | apply IsS139.set_2 | refine IsS139.far ?_ NB544_540.out _ | refine IsS139.far ?_ NB544_553.out _) | exact HI544.out)); (case side2 => repeat (first | (with_reducible first | exact HB.out | apply below_alloc | apply pw_below_drewN | apply below_drew1 | refine below_set ?_ (IsS139.ge HI544.out) | refine below_set ?_ GE540.out | refine below_set ?_ GE553.out) | exact HB.out)); rintro e w64 ⟨rfl, hi, hb, hk⟩; refine ⟨_, rfl, ?_⟩; have n0_ := Aside0.mk (Kd.R_mono (Kd.R_keep (IsS139.apart (show IsS139 w _ g544 x545000_1 x545001_1 x545002_1 from by repeat (first | (with_reducible first | exact HI544.out | apply IsS139.alloc | apply IsS139.drewN | apply IsS139.drew | apply IsS139.set_0 | apply IsS139.set_1 | apply IsS139.set_2 | refine IsS139.far ?_ NB544_540.out _ | refine IsS139.far ?_ NB544_553.out _) | exact HI544.out)) (by (with_reducible repeat (first | apply Kd.R_alloc | apply Kd.R_drewN | apply Kd.R_drew)); exact HO_554002.out) (by decide)) hk (fun _ h => h.2)) (fun _ h => h.1)); have n1_ := Aside0.mk (KeepBut.blk hk (g' := gb540) (o := .cells #[.int .u32 0, .int .u32 0, .slice none 0 0] 83 (0, 0)) (by (with_reducible repeat (first | refine blk_drewN ?_ _ | refine blk_drew ?_ | refine blk_alloc ?_ _)); exact BK540.out) NB540_544.out (by simp)); have n2_ := Aside0.mk (KeepBut.blk hk (g' := gb553) (o := .cells #[.int .u32 t545, .int .u32 t549, u554002] 83 (0, 0)) (by (with_reducible repeat (first | refine blk_drewN ?_ _ | refine blk_drew ?_ | refine blk_alloc ?_ _)); exact BK553.out) NB553_544.out (by simp)); have n3_ := Aside0.mk (hb); have n4_ := Aside0.mk (hi); clear HO_554002; clear BK540; clear BK553; clear HB; clear HI544; have HO_554002 := n0_; have BK540 := n1_; have BK553 := n2_; have HB := n3_; have HI544 := n4_; clear n0_ n1_ n2_ n3_ n4_; (try clear hb); (try clear hb2); (try clear hk); (try clear hi); have hnb65 := NB553_540.out; have hnc65 := NB540_553.out; have hnb66 := NB553_544.out; have hnc66 := NB544_553.out; have hcz67_0 : w64.cell? ⟨gb553, 0, none⟩ = some (.int .u32 t545) := (blk_cell BK553.out 0).trans rfl; have hcz67_1 : w64.cell? ⟨gb553, 1, none⟩ = some (.int .u32 t549) := (blk_cell BK553.out 1).trans rfl; have hcz67_2 : w64.cell? ⟨gb553, 2, none⟩ = some (u554002) := (blk_cell BK553.out 2).trans rfl; have hfz67_0 := blk_frozen BK553.out 0; have hfz67_1 := blk_frozen BK553.out 1; have hfz67_2 := blk_frozen BK553.out 2; obtain ⟨Ao68, co68, eo68⟩ := Kd.R_slice HO_554002.out; subst eo68) | ((with_reducible refine gate_callee (f := 55) rfl ?_); refine goesL_ (some 70) rfl rfl Try.func55 (by kernel_rfl) rfl #[.slice Ao68 x554002_1.length co68] rfl (by (try simp only [List.map_toArray, List.map_cons, List.map_nil]); first | done | rfl | (simp only [List.length_drop, List.length_take]; rfl)) ?_; (with_reducible refine (flywheelref11_Good.calls _ _ x554002_1 false _ ?side1 ?side2 A54.out).mono ?_); (case side1 => repeat (first | exact (Kd.R_reads' HO_554002.out).2.2 | (with_reducible refine Kd.C_alloc ?_ _) | (with_reducible refine Kd.C_drewN ?_ _) | (with_reducible refine Kd.C_drew ?_))); (case side2 => exact (Kd.R_reads' HO_554002.out).2.1); rintro e w' ⟨rfl, ⟨nd, rfl⟩⟩; refine ⟨_, rfl, ?_⟩; (try (rw [drewN_self w64]; generalize hq_ : World.drewN w64 _ = w64; have n0_ : Aside0 (Kd.R (Kd.int .i64) 3 w64 w.heap.size (fun _ => True) (.slice Ao68 x554002_1.length co68) x554002_1) := ⟨by rw [← hq_]; exact (by (with_reducible repeat (first | apply Kd.R_alloc | apply Kd.R_drewN | apply Kd.R_drew)); exact HO_554002.out)⟩; have n1_ : Aside0 (w64.heap[gb540]? = some (.cells #[.int .u32 0, .int .u32 0, .slice none 0 0] 83 (0, 0))) := ⟨by rw [← hq_]; exact (by (with_reducible repeat (first | refine blk_drewN ?_ _ | refine blk_drew ?_ | refine blk_alloc ?_ _)); exact BK540.out)⟩; have n2_ : Aside0 (w64.heap[gb553]? = some (.cells #[.int .u32 t545, .int .u32 t549, .slice Ao68 x554002_1.length co68] 83 (0, 0))) := ⟨by rw [← hq_]; exact (by (with_reducible repeat (first | refine blk_drewN ?_ _ | refine blk_drew ?_ | refine blk_alloc ?_ _)); exact BK553.out)⟩; have n3_ : Aside0 (IsS139 w w64 g544 t555 t556 t557) := ⟨by rw [← hq_]; exact (by repeat (first | (with_reducible first | exact HI544.out | apply IsS139.alloc | apply IsS139.drewN | apply IsS139.drew | apply IsS139.set_0 | apply IsS139.set_1 | apply IsS139.set_2 | refine IsS139.far ?_ NB544_540.out _ | refine IsS139.far ?_ NB544_553.out _) | exact HI544.out))⟩; have n4_ : Aside0 (Below w.heap.size w w64) := ⟨by rw [← hq_]; exact (by repeat (first | (with_reducible first | exact HB.out | apply below_alloc | apply pw_below_drewN | apply below_drew1 | refine below_set ?_ (IsS139.ge HI544.out) | refine below_set ?_ GE540.out | refine below_set ?_ GE553.out) | exact HB.out))⟩; clear HO_554002 BK540 BK553 HI544 HB hq_; have HO_554002 := n0_; have BK540 := n1_; have BK553 := n2_; have HI544 := n3_; have HB := n4_; clear n0_ n1_ n2_ n3_ n4_)); have hnb69 := NB540_544.out; have hnc69 := NB544_540.out; have hcz70_0 : w64.cell? ⟨gb540, 0, none⟩ = some (.int .u32 0) := (blk_cell BK540.out 0).trans rfl; have hcz70_1 : w64.cell? ⟨gb540, 1, none⟩ = some (.int .u32 0) := (blk_cell BK540.out 1).trans rfl; have hcz70_2 : w64.cell? ⟨gb540, 2, none⟩ = some (.slice none 0 0) := (blk_cell BK540.out 2).trans rfl; have hfz70_0 := blk_frozen BK540.out 0; have hfz70_1 := blk_frozen BK540.out 1; have hfz70_2 := blk_frozen BK540.out 2))
         refine bodyPost_ret (results_ct rfl _ _ gb540 83 #[.int .u32 0, .int .u32 0, .slice none 0 0] (0, 0) _ rfl (by (with_reducible repeat (first | refine blk_drewN ?_ _ | refine blk_drew ?_ | refine blk_alloc ?_ _)); refine blk_put (cs := #[.int .u32 0, .int .u32 0, .slice none 0 0]) ?_ 2 _ rfl; (with_reducible repeat (first | refine blk_drewN ?_ _ | refine blk_drew ?_ | refine blk_alloc ?_ _)); refine blk_put (cs := #[.int .u32 0, .int .u32 0, .slice none 0 0]) ?_ 1 _ rfl; (with_reducible repeat (first | refine blk_drewN ?_ _ | refine blk_drew ?_ | refine blk_alloc ?_ _)); refine blk_put (cs := #[.int .u32 0, .int .u32 0, .slice none 0 0]) ?_ 0 _ rfl; (with_reducible repeat (first | refine blk_drewN ?_ _ | refine blk_drew ?_ | refine blk_alloc ?_ _)); exact BK540.out) Try.underlying83 rfl (by kernel_rfl)) rfl ?_
         exact ⟨_, by first | rfl | (simp [errW_none, errW_some] <;> rfl) | (simp [*, errW_none, errW_some] <;> rfl), by first | exact Kd.R_nil _ _ _ _ _ | exact Kd.N_nil _ _ _ _ _ | exact Kd.V_nil _ _ _ _ _ | exact Kd.Q_nil _ _ _ _ _ | exact Kd.S_nil _ _ _ _ _, by repeat (first | (with_reducible first | exact HB.out | apply below_alloc | apply pw_below_drewN | apply below_drew1 | refine below_set ?_ (IsS139.ge HI544.out) | refine below_set ?_ GE540.out | refine below_set ?_ GE553.out) | exact HB.out)⟩
  ·rw [if_neg c5] at H
   have c5b0 : (((a0.size : Int) % 4) == 0) = false := beq_eq_false_iff_ne.mpr c5
   have c5b1 : (((a0.size : Int) % 4) != 0) = true := bne_iff_ne.mpr c5
   simp only [Option.some.injEq, Prod.mk.injEq] at H
   obtain ⟨rfl, rfl, rfl, rfl⟩ := H
   go_enter Try.func26, Try.ntmps26
   go_wp2_with (first | ((with_reducible refine gate_dst (N := 2) rfl ?_); refine box_event ?hg (N := 2) ?hd (cs := #[.int .u32 0, .int .u32 0, .slice none 0 0]) (t := 83) ?hr ?_; (case hd => rfl); (case hg => rfl); (case hr => first | (go_simp; done) | (go_simp; rfl)); intro gb540 hg w71 hbox hb; have n0_ := Aside0.mk (below_step (by repeat (first | (with_reducible first | exact HB.out | apply below_alloc | apply pw_below_drewN | apply below_drew1) | exact HB.out)) hb); have n1_ := Aside0.mk (hbox); have n2_ := Aside0.mk ((by rw [hg]; exact (below_size (by repeat (first | (with_reducible first | exact HB.out | apply below_alloc | apply pw_below_drewN | apply below_drew1) | exact HB.out))) : w.heap.size ≤ gb540)); have n3_ := Aside0.mk ((by rw [hg]; exact (below_size (by repeat (first | (with_reducible first | exact HB.out | apply below_alloc | apply pw_below_drewN | apply below_drew1) | exact HB.out))) : w.heap.size ≤ gb540)); clear HB; have HB := n0_; have BK540 := n1_; have GW540 := n2_; have GE540 := n3_; clear n0_ n1_ n2_ n3_; clear hb hbox hg; have hcz72_0 : w71.cell? ⟨gb540, 0, none⟩ = some (.int .u32 0) := (blk_cell BK540.out 0).trans rfl; have hcz72_1 : w71.cell? ⟨gb540, 1, none⟩ = some (.int .u32 0) := (blk_cell BK540.out 1).trans rfl; have hcz72_2 : w71.cell? ⟨gb540, 2, none⟩ = some (.slice none 0 0) := (blk_cell BK540.out 2).trans rfl; have hfz72_0 := blk_frozen BK540.out 0; have hfz72_1 := blk_frozen BK540.out 1; have hfz72_2 := blk_frozen BK540.out 2))
   refine bodyPost_ret (results_ct rfl _ _ gb540 83 #[.int .u32 0, .int .u32 0, .slice none 0 0] (0, 0) _ rfl (by (with_reducible repeat (first | refine blk_drewN ?_ _ | refine blk_drew ?_ | refine blk_alloc ?_ _)); refine blk_put (cs := #[.int .u32 0, .int .u32 0, .slice none 0 0]) ?_ 2 _ rfl; (with_reducible repeat (first | refine blk_drewN ?_ _ | refine blk_drew ?_ | refine blk_alloc ?_ _)); refine blk_put (cs := #[.int .u32 0, .int .u32 0, .slice none 0 0]) ?_ 1 _ rfl; (with_reducible repeat (first | refine blk_drewN ?_ _ | refine blk_drew ?_ | refine blk_alloc ?_ _)); refine blk_put (cs := #[.int .u32 0, .int .u32 0, .slice none 0 0]) ?_ 0 _ rfl; (with_reducible repeat (first | refine blk_drewN ?_ _ | refine blk_drew ?_ | refine blk_alloc ?_ _)); exact BK540.out) Try.underlying83 rfl (by kernel_rfl)) rfl ?_
   exact ⟨_, by first | rfl | (simp [errW_none, errW_some] <;> rfl) | (simp [*, errW_none, errW_some] <;> rfl), by first | exact Kd.R_nil _ _ _ _ _ | exact Kd.N_nil _ _ _ _ _ | exact Kd.V_nil _ _ _ _ _ | exact Kd.Q_nil _ _ _ _ _ | exact Kd.S_nil _ _ _ _ _, by repeat (first | (with_reducible first | exact HB.out | apply below_alloc | apply pw_below_drewN | apply below_drew1 | refine below_set ?_ GE540.out) | exact HB.out)⟩
end Go.Proofs.Ytgakmnholegbgaa.PFeedReads
end
section
namespace Go.Proofs.Ytgakmnholegbgaa.GPure
open Go.RowKit Go.Proofs.Ytgakmnholegbgaa.PFeedReads Go.Proofs.YtgakmnholegbgaaW.PrintWords Go.Proofs.YtgakmnholegbgaaW.PrintLast
open Go.Proofs.YtgakmnholegbgaaW.PrintMore
set_option linter.unusedVariables false
set_option linter.unusedSimpArgs false
theorem w_nat (n : Nat) (h : n ≤ 1000000000000000) : wrap64 (n : Int) = (n : Int) := by unfold wrap64; omega
theorem w_suc (n : Nat) (h : n ≤ 1000000000000000) : wrap64 ((n : Int) + 1) = ((n + 1 : Nat) : Int) := by unfold wrap64; omega
theorem w_div8 (n : Nat) (h : n ≤ 1000000000000000) : wrap64 (Int.tdiv (n : Int) 8) = ((n / 8 : Nat) : Int) := by
 rw [Int.tdiv_eq_ediv_of_nonneg (by omega)]; unfold wrap64; omega
theorem u_nat (n : Nat) (h : n ≤ 1000000000000000) : IntKind.u64.wrap (n : Int) = (n : Int) := by rw [IntKind.wrap_u64]; omega
theorem w_mod7 (n : Nat) : wrap64 (7 - (Int.tmod (n : Int) 8)) = ((7 - n % 8 : Nat) : Int) := by
 rw [Int.tmod_eq_emod_of_nonneg (by omega)]; unfold wrap64; omega
theorem get_step (v b : Nat) (hv : v < 2147483648) (hb : b < 2) : (((v : Int) * 2) % 4294967296 + (b : Int) % 4294967296) % 4294967296 = ((2 * v + b : Nat) : Int) := by omega
theorem w_left (z y : Nat) (hz : z ≤ 1000000) (hy : y ≤ 8 * z) : wrap64 (wrap64 (8 * (z : Int)) - (y : Int)) = ((8 * z - y : Nat) : Int) := by unfold wrap64; omega
theorem w_sum (f i : Nat) (hf : f < 65536) (hi : i < 16) : Int.tmod (wrap64 (wrap64 ((f : Int) + (i : Int)) + 1)) 65536 = (((f + i + 1) % 65536 : Nat) : Int) := by
 rw [show wrap64 (wrap64 ((f : Int) + (i : Int)) + 1) = ((f + i + 1 : Nat) : Int) by unfold wrap64; omega, Int.tmod_eq_emod_of_nonneg (by omega)]; omega
theorem ref_bit (s : ByteArray) (q : Nat) (hq : q ≤ 8000000) : Go.bits .and .u8 (shr .u8 (bt s (wrap64 (Int.tdiv (q : Int) 8))) (IntKind.u64.wrap (wrap64 (7 - (Int.tmod (q : Int) 8))))) 1 = ((B.bitN s q).toNat : Int) := by
 rw [w_div8 q (by omega), w_mod7 q, u_nat _ (by omega), B.byteN_bt]
 unfold shr
 rw [Int.toNat_natCast, Nat.min_eq_left (show 7 - q % 8 ≤ IntKind.u8.bits from by show 7 - q % 8 ≤ 8; omega), B.and_one_u8 _ _ (B.byteN_lt _ _)]
 rfl
theorem ref_get_step (s : ByteArray) (n i v q k : Nat) (h1 : i < n) (hn : n ≤ 32) (hq : q < 8 * s.size) (hs : s.size ≤ 1000000) (hv : v < 2147483648) :
  flywheelref06_Reader_Get.l0 (k + 1) (n : Int) (v : Int) (i : Int) s (q : Int) false = flywheelref06_Reader_Get.l0 k (n : Int) ((2 * v + (B.bitN s q).toNat : Nat) : Int) ((i + 1 : Nat) : Int) s ((q + 1 : Nat) : Int) false := by
 simp only [flywheelref06_Reader_Get.l0]
 have hb := Bool.toNat_lt (B.bitN s q)
 rw [ref_bit s q (by omega), w_div8 q (by omega), w_mod7 q, u_nat _ (by omega), get_step v _ hv hb, w_suc i (by omega), w_suc q (by omega)]
 rw [if_pos (by omega), if_pos (by omega), if_pos (by omega), if_pos (by omega)]
theorem ref_get_l0 (s : ByteArray) (a n : Nat) (hn : n ≤ 32) (ha : a + n ≤ 8 * s.size) (hs : s.size ≤ 1000000) : ∀ (d k i : Nat), i + d = n → d < k →
  flywheelref06_Reader_Get.l0 k (n : Int) (B.rdBits s a i : Int) (i : Int) s ((a + i : Nat) : Int) false = some ((B.rdBits s a n : Int), s, ((a + n : Nat) : Int), false) := by
 intro d
 induction d with
 | zero =>
  intro k i hi hk
  obtain ⟨k, rfl⟩ : ∃ m, k = m + 1 := ⟨k - 1, by omega⟩
  obtain rfl : i = n := by omega
  simp only [flywheelref06_Reader_Get.l0]
  rw [if_neg (by omega)]
 | succ d ih =>
  intro k i hi hk
  obtain ⟨k, rfl⟩ : ∃ m, k = m + 1 := ⟨k - 1, by omega⟩
  rw [ref_get_step s n i _ (a + i) k (by omega) hn (by omega) hs (B.rdBits_lt31 s a i (by omega))]
  exact ih k (i + 1) (by omega) (by omega)
theorem ref_get (s : ByteArray) (a n k : Nat) (hn : n ≤ 32) (ha : a + n ≤ 8 * s.size) (hs : s.size ≤ 1000000) (hk : n + 2 ≤ k) :
  flywheelref06_Reader_Get.f k s (a : Int) false (n : Int) = some ((B.rdBits s a n : Int), s, ((a + n : Nat) : Int), false) := by
 obtain ⟨k, rfl⟩ : ∃ m, k = m + 1 := ⟨k - 1, by omega⟩
 unfold flywheelref06_Reader_Get.f
 have e : decide ((n : Int) > wrap64 (wrap64 (8 * (s.size : Int)) - (a : Int))) = false := by
  rw [w_left s.size a hs (by omega)]
  exact decide_eq_false (by omega)
 rw [if_neg (by decide), if_neg (by omega), if_neg (by omega), e]
 simp only [flywheelref06_Reader_Get.j0]
 rw [if_neg (by decide)]
 exact ref_get_l0 s a n hn ha hs n k 0 (by omega) (by omega)
theorem and_bit (m i : Nat) (hm : m < 65536) (hi : i < 16) : Go.bits .and .u32 (shr .u32 (m : Int) (i : Int)) 1 = if m.testBit i = true then 1 else 0 := by
 unfold shr
 rw [Int.toNat_natCast, Nat.min_eq_left (show i ≤ IntKind.u32.bits from by show i ≤ 32; omega), B.and_one_u32 m i (by omega)]
 cases m.testBit i <;> rfl
theorem ref_dec_step (s : ByteArray) (f m i k : Nat) (hf : f < 65536) (hm : m < 65536) (hi : i < 16) (at_ S M : Int) (Y : List Int) (hY : Y.length < 2000000) :
  flywheelref11_Decode.l1 (k + 1) (f : Int) (m : Int) (i : Int) s at_ false S M Y = flywheelref11_Decode.l1 k (f : Int) (m : Int) ((i + 1 : Nat) : Int) s at_ false S M (Y ++ if m.testBit i = true then [(((f + i + 1) % 65536 : Nat) : Int)] else []) := by
 simp only [flywheelref11_Decode.l1]
 rw [u_nat i (by omega), and_bit m i hm hi, w_suc i (by omega), w_sum f i hf hi, if_pos (by omega), if_pos (by omega)]
 by_cases hb : m.testBit i = true
 ·rw [if_pos hb, if_pos rfl, if_pos (by omega), if_pos hb]
 ·rw [if_neg hb, if_neg (by decide), if_neg hb, List.append_nil]
theorem lostPart_step (f m i : Nat) (X : List Int) : (X ++ B.lostPart f m i) ++ (if m.testBit i = true then [(((f + i + 1) % 65536 : Nat) : Int)] else []) = X ++ B.lostPart f m (i + 1) := by
 by_cases hb : m.testBit i = true
 ·rw [if_pos hb, List.append_assoc, ← B.lostPart_yes f m i hb]
 ·rw [if_neg hb, List.append_nil, B.lostPart_no f m i (by simpa using hb)]
theorem ref_dec_l1 (s : ByteArray) (f m : Nat) (hf : f < 65536) (hm : m < 65536) (at_ S M : Int) (X : List Int) (hX : X.length ≤ 1000000) : ∀ (d k i : Nat), i + d = 16 →
  flywheelref11_Decode.l1 (k + d + 1) (f : Int) (m : Int) (i : Int) s at_ false S M (X ++ B.lostPart f m i) = flywheelref11_Decode.l0 k s at_ false S M (X ++ B.lostPart f m 16) := by
 intro d
 induction d with
 | zero =>
  intro k i hi
  obtain rfl : i = 16 := by omega
  simp only [flywheelref11_Decode.l1]
  rw [if_neg (by decide)]
 | succ d ih =>
  intro k i hi
  have hl := B.lostPart_length f m i
  rw [show k + (d + 1) + 1 = (k + d + 1) + 1 by omega, ref_dec_step s f m i _ hf hm (by omega) at_ S M _ (by rw [List.length_append]; omega), lostPart_step]
  exact ih k (i + 1) (by omega)
theorem ref_dec_end (s : ByteArray) (S M : Int) (k q : Nat) (hs : s.size ≤ 65536) (hq : q = 8 * s.size) (X : List Int) :
  flywheelref11_Decode.l0 (k + 1) s (q : Int) false S M X = (if 4096 < X.length then some (0, 0, [], 3) else if B.goodB X = true then some (S, M, X, 0) else some (0, 0, [], 110)) := by
 simp only [flywheelref11_Decode.l0, flywheelref06_Reader_Left.f]
 rw [w_left s.size q (by omega) (by omega), if_neg (by decide)]
 simp only [Option.bind_some]
 rw [if_neg (by omega)]
 by_cases h1 : 4096 < X.length
 ·rw [if_pos h1, if_pos (by omega)]
 rw [if_neg h1, if_neg (by omega)]
 simp only [flywheelref11_Good.f, Option.bind_some]
theorem ref_dec_round (s : ByteArray) (S M : Int) (k q : Nat) (hs : s.size ≤ 65536) (hq : q + 32 ≤ 8 * s.size) (hk : 18 ≤ k) (X : List Int) (hX : X.length ≤ 1000000) :
  flywheelref11_Decode.l0 (k + 16 + 1 + 1) s (q : Int) false S M X = flywheelref11_Decode.l0 k s ((q + 32 : Nat) : Int) false S M (X ++ B.lostPart (B.rdBits s q 16) (B.rdBits s (q + 16) 16) 16) := by
 have hf := B.rdBits_lt s q 16
 have h2 := ref_dec_l1 s (B.rdBits s q 16) (B.rdBits s (q + 16) 16) hf (B.rdBits_lt s (q + 16) 16) ((q + 16 + 16 : Nat) : Int) S M X hX 16 k 0 rfl
 have g1 := ref_get s q 16 (k + 16 + 1) (by omega) (by omega) (by omega) (by omega)
 have g2 := ref_get s (q + 16) 16 (k + 16 + 1) (by omega) (by omega) (by omega) (by omega)
 rw [B.lostPart_zero] at h2
 obtain ⟨K, hK⟩ : ∃ K, k + 16 + 1 = K := ⟨_, rfl⟩
 rw [hK] at g1 g2 h2 ⊢
 simp only [flywheelref11_Decode.l0, flywheelref06_Reader_Left.f]
 rw [w_left s.size q (by omega) (by omega), if_neg (by decide)]
 simp only [Option.bind_some]
 rw [if_pos (by omega), show (16 : Int) = ((16 : Nat) : Int) from rfl, g1]
 simp only [Option.bind_some]
 rw [g2]
 simp only [Option.bind_some]
 rw [if_pos (by omega), w_nat _ (by omega)]
 exact h2
theorem ref_dec_l0 (s : ByteArray) (S M : Int) (n : Nat) (hn : s.size = 8 + 4 * n) (hs : s.size ≤ 65536) : ∀ (d k j : Nat), j + d = n → 40 ≤ k →
  flywheelref11_Decode.l0 (k + 18 * d) s ((64 + 32 * j : Nat) : Int) false S M (B.lostAll s j) =
   (if 4096 < (B.lostAll s n).length then some (0, 0, [], 3) else if B.goodB (B.lostAll s n) = true then some (S, M, B.lostAll s n, 0) else some (0, 0, [], 110)) := by
 intro d
 induction d with
 | zero =>
  intro k j hj hk
  obtain ⟨k, rfl⟩ : ∃ m, k = m + 1 := ⟨k - 1, by omega⟩
  obtain rfl : j = n := by omega
  exact ref_dec_end s S M k _ hs (by omega) _
 | succ d ih =>
  intro k j hj hk
  have hl := B.lostAll_length s j
  rw [show k + 18 * (d + 1) = (k + 18 * d) + 16 + 1 + 1 by omega, ref_dec_round s S M (k + 18 * d) _ hs (by omega) (by omega) _ (by omega)]
  have h1 := ih k (j + 1) (by omega) hk
  rw [B.lostAll_succ] at h1
  unfold B.lostAt at h1
  rw [show 64 + 32 * j + 16 = 80 + 32 * j by omega]
  exact h1
theorem ref_dec (s : ByteArray) : ∃ k, flywheelref11_Decode.f k s = some (B.nackDec s) := by
 refine ⟨40 + 18 * ((s.size - 8) / 4), ?_⟩
 unfold flywheelref11_Decode.f B.nackDec
 by_cases c1 : 65536 < s.size
 ·rw [if_pos c1, if_pos (by omega)]
 rw [if_neg c1, if_neg (by omega)]
 by_cases c2 : s.size % 4 ≠ 0
 ·rw [if_pos c2, if_neg (by omega)]
 rw [if_neg c2, if_pos (by omega)]
 by_cases c3 : s.size < 12
 ·rw [if_pos c3, if_pos (by omega)]
 rw [if_neg c3, if_neg (by omega)]
 have g1 := ref_get s 0 32 (40 + 18 * ((s.size - 8) / 4)) (by omega) (by omega) (by omega) (by omega)
 have g2 := ref_get s 32 32 (40 + 18 * ((s.size - 8) / 4)) (by omega) (by omega) (by omega) (by omega)
 simp only [flywheelref06_Read.f, Option.bind_some]
 rw [show (32 : Int) = ((32 : Nat) : Int) from rfl, show (0 : Int) = ((0 : Nat) : Int) from rfl, g1]
 simp only [Option.bind_some, Nat.zero_add]
 rw [g2]
 simp only [Option.bind_some]
 have h := ref_dec_l0 s (B.rdBits s 0 32 : Int) (B.rdBits s 32 32 : Int) ((s.size - 8) / 4) (by omega) (by omega) ((s.size - 8) / 4) 40 0 (by omega) (by omega)
 refine h.trans ?_
 split
 ·rfl
 ·split <;> rfl
end Go.Proofs.Ytgakmnholegbgaa.GPure
namespace Go.Proofs.Ytgakmnholegbgaa.B
open Go.RowKit Go.Proofs.YtgakmnholegbgaaW.PrintWords Go.Proofs.YtgakmnholegbgaaW.PrintLast Go.Proofs.YtgakmnholegbgaaW.PrintMore
def cutW (w : World) (p : Nat) : World := { w with heap := w.heap.extract 0 p }
theorem cutW_size (w : World) (p : Nat) (h : p ≤ w.heap.size) : (cutW w p).heap.size = p := by unfold cutW; simp; omega
theorem cutW_below (w : World) (p : Nat) (h : p ≤ w.heap.size) : Below (cutW w p).heap.size (cutW w p) w :=
 ⟨rfl, rfl, rfl, by rw [cutW_size w p h]; exact h, fun k hk => by
  rw [cutW_size w p h] at hk
  unfold cutW
  simp only [Array.getElem?_extract]
  rw [if_pos (by omega), Nat.zero_add]⟩
theorem rget_good (w : World) (p : Nat) (s : ByteArray) (a n : Nat) (h : RdIs w p 139 s (a : Int) false) (hs : s.size ≤ 1000000) (hn : n ≤ 32) (hl : a + n ≤ 8 * s.size) :
  Calls Try.prog 47 #[.pointer (some ⟨p, 0, none⟩), .int .i64 (n : Int)] w fun e w' => e = .returned (.int .u32 (rdBits s a n : Int)) ∧ RdIs w' p 139 s (((a + n : Nat)) : Int) false ∧ w.grownBy w' (some p) := by
 have hp : p ≤ w.heap.size := Nat.le_of_lt (blk_lt h)
 have hg := GPure.ref_get s a n (n + 2) hn hl hs (Nat.le_refl _)
 refine (PFeedReads.flywheelref06_Reader_Get.calls (n + 2) p s (a : Int) false (n : Int) _ _ _ _ (cutW w p) w ⟨h, by rw [cutW_size w p hp]; exact Nat.le_refl _⟩ (cutW_below w p hp) hg).mono ?_
 rintro e w' ⟨rfl, hI, hB, hK⟩
 exact ⟨rfl, hI.1, ⟨hB.os, hB.tape, hB.output, hK.1, fun i hi hne => hK.2 i hi (fun e => hne (by rw [e])) (by simp)⟩⟩
theorem rread_any (w : World) (s : ByteArray) : Calls Try.prog 46 #[.string s] w fun e w' => e = .returned (.pointer (some ⟨w.heap.size, 0, none⟩)) ∧ w' = w.alloc (.cells #[.string s, .int .i64 0, .bool false] 139) := by
 go_enter Try.func46, Try.ntmps46
 go_wp2
 go_ret
 exact ⟨rfl, rfl⟩
theorem rleft_any (w : World) (p : Nat) (s : ByteArray) (a : Int) (h : RdIs w p 139 s a false) (hs : s.size ≤ 1000000000000) (ha0 : 0 ≤ a) (ha1 : a ≤ 8 * s.size) :
  Calls Try.prog 48 #[.pointer (some ⟨p, 0, none⟩)] w fun e w' => e = .returned (.int .i64 (8 * (s.size : Int) - a)) ∧ Drawn0 w w' := by
 have h0 := blk_cell h 0
 have h1 := blk_cell h 1
 have h2 := blk_cell h 2
 simp only [List.getElem?_toArray, List.getElem?_cons_zero, List.getElem?_cons_succ] at h0 h1 h2
 clear h
 go_enter Try.func48, Try.ntmps48
 go_wp2
 go_region
 all_goals go_wp2
 all_goals go_ret
 all_goals exact ⟨rfl, ⟨1, rfl⟩⟩
theorem rnack_any (s : ByteArray) (w : World) : Calls Try.prog 26 #[.string s] w (NkPost s w) := by
 obtain ⟨k, hk⟩ := GPure.ref_dec s
 refine (PFeedReads.flywheelref11_Decode.calls k s _ _ _ _ w hk).mono ?_
 rintro e w' ⟨v, rfl, hR, hB⟩
 exact ⟨v, rfl, RowV.of_own (own_of_R hR), hB⟩
end Go.Proofs.Ytgakmnholegbgaa.B
end
section
namespace Go.Proofs.Ytgakmnholegbgaa.B
open Go.RowKit Go.Proofs.Ytgakmnholegbgaa.PFeedReads Go.Proofs.YtgakmnholegbgaaW.PrintWords Go.Proofs.YtgakmnholegbgaaW.PrintLast Go.Proofs.YtgakmnholegbgaaW.PrintMore
set_option linter.unusedVariables false
set_option linter.unusedSimpArgs false
theorem and_mask_u32 (x k : Nat) (hx : x < 4294967296) (hk : k ≤ 31) : bits .and .u32 (x : Int) (((2 ^ k - 1 : Nat)) : Int) = ((x % 2 ^ k : Nat) : Int) := by
 have hp : (2 : Nat) ^ k ≤ 2 ^ 31 := Nat.pow_le_pow_right (by omega) hk
 have hp1 := Nat.two_pow_pos k
 have e32 : ∀ z : Nat, z < 4294967296 → (BitVec.ofInt 32 (z : Int)).toNat = z := fun z hz => by rw [BitVec.ofInt_natCast, BitVec.toNat_ofNat]; exact Nat.mod_eq_of_lt (by omega)
 show IntKind.u32.wrap ((BitVec.ofInt 32 (x : Int) &&& BitVec.ofInt 32 ((2 ^ k - 1 : Nat) : Int)).toNat : Int) = _
 rw [BitVec.toNat_and, e32 _ hx, e32 _ (by omega), Nat.and_two_pow_sub_one_eq_mod, IntKind.wrap_u32]
 have := Nat.mod_lt x hp1
 omega
theorem rdBits_mid (s : ByteArray) (a i m r : Nat) : rdBits s (a + i) m = rdBits s a (i + m + r) / 2 ^ r % 2 ^ m := by
 rw [rdBits_add s a (i + m) r, rdBits_add s a i m]
 have h1 := rdBits_lt s (a + (i + m)) r
 have h2 := rdBits_lt s (a + i) m
 rw [Nat.mul_comm _ (2 ^ r), Nat.mul_add_div (Nat.two_pow_pos r), Nat.div_eq_of_lt h1, Nat.add_zero, Nat.mul_comm _ (2 ^ m), Nat.mul_add_mod, Nat.mod_eq_of_lt h2]
theorem rw_suc (n : Nat) (h : n ≤ 1000000000000000) : wrap64 ((n : Int) + 1) = ((n + 1 : Nat) : Int) := by unfold wrap64; omega
theorem rchunk_l0 (left n : Nat) (S : Int) (hl : left ≤ 4096) (hn : n ≤ 8191) : ∀ (d k i : Nat), min n left - i = d → i ≤ min n left → d < k →
  flywheelref10_chunk.l0 k (left : Int) (List.replicate i S) S (n : Int) (i : Int) = some (List.replicate (min n left) S, 0) := by
 intro d
 induction d with
 | zero =>
  intro k i hi hle hk
  obtain ⟨k, rfl⟩ : ∃ m, k = m + 1 := ⟨k - 1, by omega⟩
  have e : i = min n left := by omega
  simp only [flywheelref10_chunk.l0]
  by_cases h1 : (i : Int) < (n : Int)
  ·rw [if_pos h1, if_neg (by omega), e]
  ·rw [if_neg h1, e]
 | succ d ih =>
  intro k i hi hle hk
  obtain ⟨k, rfl⟩ : ∃ m, k = m + 1 := ⟨k - 1, by omega⟩
  simp only [flywheelref10_chunk.l0]
  rw [if_pos (by omega), if_pos (by omega), if_pos (by rw [List.length_replicate]; omega), rw_suc i (by omega)]
  have := ih k (i + 1) (by omega) (by omega) (by omega)
  rw [List.replicate_succ'] at this
  exact this
theorem chS_is (s : ByteArray) (a e n : Nat) (hn : (e = 1 ∧ n = 14) ∨ (e = 2 ∧ n = 7)) (i : Nat) (hi : i < n) (V : Nat) (hV : V = rdBits s a 16) :
  wrap64 (Go.bits .and .u32 (shr .u32 (V : Int) (IntKind.u64.wrap (wrap64 (14 - (wrap64 ((e : Int) * (wrap64 ((i : Int) + 1)))))))) (((shl .u32 1 (IntKind.u64.wrap (e : Int))) - 1) % 4294967296)) = (chS s a e i : Int) := by
 have hV2 : V < 65536 := by rw [hV]; exact rdBits_lt s a 16
 have hei : e * i + e ≤ 14 := by rcases hn with ⟨rfl, rfl⟩ | ⟨rfl, rfl⟩ <;> omega
 have e1 : IntKind.u64.wrap (wrap64 (14 - (wrap64 ((e : Int) * (wrap64 ((i : Int) + 1)))))) = ((14 - (e * i + e) : Nat) : Int) := by
  rw [rw_suc i (by omega), show (e : Int) * ((i + 1 : Nat) : Int) = ((e * i + e : Nat) : Int) by rw [← Int.natCast_mul, Nat.mul_add, Nat.mul_one]]
  generalize e * i + e = z at *
  rw [show wrap64 (z : Int) = z by unfold wrap64; omega, show wrap64 (14 - (z : Int)) = ((14 - z : Nat) : Int) by unfold wrap64; omega, IntKind.wrap_u64]
  omega
 have e2 : (((shl .u32 1 (IntKind.u64.wrap (e : Int))) - 1) % 4294967296) = ((2 ^ e - 1 : Nat) : Int) := by rcases hn with ⟨rfl, rfl⟩ | ⟨rfl, rfl⟩ <;> decide
 have e3 : shr .u32 (V : Int) ((14 - (e * i + e) : Nat) : Int) = ((V / 2 ^ (14 - (e * i + e)) : Nat) : Int) := by
  unfold shr
  rw [Int.toNat_natCast, Nat.min_eq_left (show _ ≤ IntKind.u32.bits from by show _ ≤ 32; omega), Int.natCast_ediv, Int.natCast_pow]
  rfl
 rw [e1, e2, e3, and_mask_u32 _ e (Nat.lt_of_le_of_lt (Nat.div_le_self _ _) (by omega)) (by omega)]
 have e4 : chS s a e i = V / 2 ^ (14 - (e * i + e)) % 2 ^ e := by
  unfold chS
  rw [Nat.add_assoc, rdBits_mid s a (2 + e * i) e (14 - (e * i + e)), hV, show 2 + e * i + e + (14 - (e * i + e)) = 16 by omega]
 rw [← e4]
 have hc := rdBits_lt s (a + 2 + e * i) e
 have hp : 2 ^ e ≤ 4 := by rcases hn with ⟨rfl, rfl⟩ | ⟨rfl, rfl⟩ <;> decide
 have hc2 : chS s a e i < 2 ^ e := hc
 generalize chS s a e i = z at *
 unfold wrap64
 omega
theorem chOk_take {s : ByteArray} {a e left n : Nat} (h : chOk s a e left n = true) : ∀ k, k ≤ n → chOk s a e left k = true := by
 intro k hk
 unfold chOk at *
 rw [List.all_eq_true] at *
 intro x hx
 exact h x (List.mem_range.2 (by have := List.mem_range.1 hx; omega))
theorem u64_nonneg (x : Int) : 0 ≤ IntKind.u64.wrap x := by
 rw [IntKind.wrap_u64]
 exact Int.emod_nonneg _ (by decide)
theorem chS_lt4 (s : ByteArray) (a e n i : Nat) (hn : (e = 1 ∧ n = 14) ∨ (e = 2 ∧ n = 7)) : chS s a e i < 4 := by
 have h1 := rdBits_lt s (a + 2 + e * i) e
 have hp : 2 ^ e ≤ 4 := by rcases hn with ⟨rfl, rfl⟩ | ⟨rfl, rfl⟩ <;> decide
 exact Nat.lt_of_lt_of_le h1 hp
theorem rchunk_l1 (s : ByteArray) (a e n left : Nat) (hn : (e = 1 ∧ n = 14) ∨ (e = 2 ∧ n = 7)) (hl : left ≤ 4096) (V : Nat) (hV : Aside0 (V = rdBits s a 16)) : ∀ (d k i : Nat), n - i = d → i ≤ n → 2 * d + 1 ≤ k → chOk s a e left i = true →
  flywheelref10_chunk.l1 k (V : Int) (left : Int) (chL s a e (min i left)) (n : Int) (e : Int) (i : Int) = if chOk s a e left n = true then some (chL s a e (min n left), 0) else some ([], 100) := by
 intro d
 induction d with
 | zero =>
  intro k i hi hle hk hok
  obtain ⟨k, rfl⟩ : ∃ m, k = m + 1 := ⟨k - 1, by omega⟩
  obtain rfl : i = n := by omega
  simp only [flywheelref10_chunk.l1]
  rw [if_neg (by omega), if_pos hok]
 | succ d ih =>
  intro k i hi hle hk hok
  obtain ⟨k, rfl⟩ : ∃ m, k = m + 1 + 1 := ⟨k - 2, by omega⟩
  have hn14 : n ≤ 14 := by omega
  have HS := Aside0.mk (chS_is s a e n hn i (by omega) V hV.out)
  have HSU := Aside0.mk (chOk_succ s a e left i)
  have hc := chS_lt4 s a e n i hn
  have bad : chOk s a e left (i + 1) = false → chOk s a e left n = false := fun h => by
   cases hc2 : chOk s a e left n with
   | false => rfl
   | true => rw [chOk_take hc2 (i + 1) (by omega)] at h; cases h
  have next : chOk s a e left (i + 1) = true → ∀ X, X = chL s a e (min (i + 1) left) → flywheelref10_chunk.l1 k (V : Int) (left : Int) X (n : Int) (e : Int) (wrap64 ((i : Int) + 1)) = if chOk s a e left n = true then some (chL s a e (min n left), 0) else some ([], 100) := fun h X hX => by
   rw [hX, rw_suc i (by omega)]
   exact ih k (i + 1) (by omega) (by omega) (by omega) h
  have chL1 : i < left → chL s a e (min i left) ++ [(chS s a e i : Int)] = chL s a e (min (i + 1) left) := fun h => by
   rw [Nat.min_eq_left (by omega), Nat.min_eq_left (by omega), chL_succ]
  have chL0 : ¬ i < left → chL s a e (min i left) = chL s a e (min (i + 1) left) := fun h => by
   rw [Nat.min_eq_right (by omega), Nat.min_eq_right (by omega)]
  clear ih
  simp only [flywheelref10_chunk.l1]
  rw [if_pos (by omega), if_pos (u64_nonneg _), if_pos (u64_nonneg _), HS.out]
  rw [hok, Bool.true_and] at HSU
  clear HS hV
  obtain ⟨z, hz⟩ : ∃ z, z = chS s a e i := ⟨_, rfl⟩
  rw [← hz] at HSU hc chL1 ⊢
  clear hz
  simp only [flywheelref10_chunk.j4]
  by_cases h3 : z = 3
  ·have : chOk s a e left (i + 1) = false := by rw [HSU.out, h3]; rfl
   rw [if_pos (by omega), if_pos trivial, bad this]
   rfl
  rw [if_neg (by omega)]
  by_cases hil : i < left
  ·have : chOk s a e left (i + 1) = true := by rw [HSU.out, decide_eq_true (show z ≤ 2 by omega), decide_eq_true hil]; rfl
   rw [if_neg (by omega), if_neg (by decide), if_pos (by omega), if_pos (by rw [chL_length]; omega)]
   exact next this _ (chL1 hil)
  ·rw [if_pos (by omega)]
   by_cases hz0 : z = 0
   ·have : chOk s a e left (i + 1) = true := by rw [HSU.out, hz0, decide_eq_true (show 0 ≤ 2 by omega)]; simp
    rw [if_neg (by simp [hz0]), if_neg (by omega)]
    exact next this _ (chL0 hil)
   ·have : chOk s a e left (i + 1) = false := by rw [HSU.out, decide_eq_true (show z ≤ 2 by omega), decide_eq_false hil]; simp [hz0]
    rw [if_pos (by simp; omega), bad this]
    rfl
theorem rchunk_is (s : ByteArray) (a left : Nat) (hr : a + 16 ≤ 8 * s.size) (hl : left ≤ 4096) : flywheelref10_chunk.f 9000 ((rdBits s a 16 : Nat) : Int) (left : Int) = some (chunkP s a left) := by
 obtain ⟨V, hV⟩ : ∃ V, V = rdBits s a 16 := ⟨_, rfl⟩
 have hV2 : V < 65536 := by rw [hV]; exact rdBits_lt s a 16
 have b1 : rdBits s a 1 = V / 32768 := by
  have h := rdBits_mid s a 0 1 15
  rw [Nat.add_zero, show 0 + 1 + 15 = 16 from rfl, ← hV] at h
  rw [h]
  omega
 have b2 : rdBits s (a + 1) 2 = V / 8192 % 4 := by rw [rdBits_mid s a 1 2 13, hV]
 have b3 : rdBits s (a + 3) 13 = V % 8192 := by rw [rdBits_mid s a 3 13 0, hV, Nat.pow_zero, Nat.div_one]
 have b4 : rdBits s (a + 1) 1 = V / 16384 % 2 := by rw [rdBits_mid s a 1 1 14, hV]
 unfold chunkP
 rw [if_neg (by omega), b1, b2, b3, b4]
 rw [← hV]
 have HV := Aside0.mk hV
 clear b1 b2 b3 b4 hV
 unfold flywheelref10_chunk.f
 have m3 : wrap64 (Go.bits .and .u32 ((V : Int) / 8192) 3) = ((V / 8192 % 4 : Nat) : Int) := by
  have h := and_mask_u32 (V / 8192) 2 (by omega) (by omega)
  rw [show ((V : Int) / 8192) = ((V / 8192 : Nat) : Int) by omega, show (3 : Int) = ((2 ^ 2 - 1 : Nat) : Int) from rfl, h]
  unfold wrap64
  omega
 have m13 : wrap64 (Go.bits .and .u32 (V : Int) 8191) = ((V % 8192 : Nat) : Int) := by
  have h := and_mask_u32 V 13 (by omega) (by omega)
  rw [show (8191 : Int) = ((2 ^ 13 - 1 : Nat) : Int) from rfl, h]
  unfold wrap64
  omega
 rw [m3, m13]
 by_cases h0 : V / 32768 = 0
 ·rw [if_pos h0, if_pos (by omega)]
  simp only [flywheelref10_chunk.j0]
  have hz := rchunk_l0 left (V % 8192) ((V / 8192 % 4 : Nat) : Int) hl (by omega) (min (V % 8192) left) 8999 0 (by omega) (by omega) (by omega)
  by_cases h3 : V / 8192 % 4 = 3
  ·rw [if_pos (by omega), if_pos trivial, if_pos (.inl (by omega))]
  rw [if_neg (by omega)]
  by_cases h4 : V % 8192 = 0
  ·rw [if_pos (by simp; omega), if_pos (.inr h4)]
  ·rw [if_neg (by simp; omega), if_neg (by omega)]
   exact hz
 ·rw [if_neg h0, if_neg (by omega)]
  by_cases h1 : V / 16384 % 2 = 1
  ·rw [if_pos h1, if_pos (by omega)]
   simp only [flywheelref10_chunk.j2]
   have hz := rchunk_l1 s a 2 7 left (.inr ⟨rfl, rfl⟩) hl V HV 7 8999 0 rfl (by omega) (by omega) rfl
   rw [Nat.zero_min] at hz
   refine hz.trans ?_
   split <;> rfl
  ·rw [if_neg h1, if_neg (by omega)]
   simp only [flywheelref10_chunk.j2]
   have hz := rchunk_l1 s a 1 14 left (.inl ⟨rfl, rfl⟩) hl V HV 14 8999 0 rfl (by omega) (by omega) rfl
   rw [Nat.zero_min] at hz
   refine hz.trans ?_
   split <;> rfl
theorem rchunk_any (s : ByteArray) (a left : Nat) (hr : a + 16 ≤ 8 * s.size) (hl : left ≤ 4096) (w : World) : Calls Try.prog 53 #[.int .u32 ((rdBits s a 16 : Nat) : Int), .int .i64 (left : Int)] w fun e w' => ∃ v, e = .returned (.tuple #[v, .int .i64 (chunkP s a left).2]) ∧ RowV w' w.heap.size 3 1 v (chunkP s a left).1.length (iV (chunkP s a left).1) ∧ Below w.heap.size w w' := by
 refine (flywheelref10_chunk.calls 9000 _ _ _ _ w (rchunk_is s a left hr hl)).mono ?_
 rintro e w' ⟨v, rfl, hR, hB⟩
 exact ⟨v, rfl, RowV.of_own (own_of_R hR), hB⟩
theorem rsigned_any (v n : Nat) (hn : (n = 24 ∧ v < 16777216) ∨ (n = 16 ∧ v < 65536)) (w : World) : Calls Try.prog 52 #[.int .u32 (v : Int), .int .i64 (n : Int)] w fun e w' => e = .returned (.int .i64 (signedP v n)) ∧ Drawn0 w w' := by
 refine flywheelref10_signed.calls _ _ _ w ?_
 unfold flywheelref10_signed.f signedP
 rcases hn with ⟨rfl, h⟩ | ⟨rfl, h⟩
 ·rw [show shl .i64 1 (IntKind.u64.wrap (wrap64 (((24 : Nat) : Int) - 1))) = 8388608 from by decide +kernel, show shl .i64 1 (IntKind.u64.wrap ((24 : Nat) : Int)) = 16777216 from by decide +kernel, if_pos (u64_nonneg _), show wrap64 (v : Int) = v by unfold wrap64; omega]
  by_cases hv : v < 2 ^ (24 - 1)
  ·rw [if_neg (by omega), if_pos hv]
  ·rw [if_pos (by omega), if_pos (u64_nonneg _), if_neg hv]
   congr 1
   unfold wrap64
   omega
 ·rw [show shl .i64 1 (IntKind.u64.wrap (wrap64 (((16 : Nat) : Int) - 1))) = 32768 from by decide +kernel, show shl .i64 1 (IntKind.u64.wrap ((16 : Nat) : Int)) = 65536 from by decide +kernel, if_pos (u64_nonneg _), show wrap64 (v : Int) = v by unfold wrap64; omega]
  by_cases hv : v < 2 ^ (16 - 1)
  ·rw [if_neg (by omega), if_pos hv]
  ·rw [if_pos (by omega), if_pos (u64_nonneg _), if_neg hv]
   congr 1
   unfold wrap64
   omega
end Go.Proofs.Ytgakmnholegbgaa.B
end
section
namespace Go.Proofs.Ytgakmnholegbgaa.B
open Go.RowKit Go.Proofs.YtgakmnholegbgaaW.PrintWords Go.Proofs.YtgakmnholegbgaaW.PrintLast Go.Proofs.YtgakmnholegbgaaW.PrintMore
set_option linter.unusedVariables false
set_option linter.unusedSimpArgs false
theorem rtw_load (g2 : Nat) (tm : Array Value) (w : World) (u0 u1 u2 u3 u4 u5 u6 x : Value) (t2 : tm[2]?.getD undef = .pointer (some ⟨g2, 0, none⟩)) (t3 : tm[3]?.getD undef = x) (h : w.heap[g2]? = some (.cells #[u0, u1, u2, u3, u4, u5, u6] 63 (0, 0))) :
  (results Try.f24 tm).run Try.prog w = .ok (.tuple #[.agg #[u0, u1, u2, u3, u4, u5, u6], x]) w := by
 have c0 := blk_cell h 0
 have c1 := blk_cell h 1
 have c2 := blk_cell h 2
 have c3 := blk_cell h 3
 have c4 := blk_cell h 4
 have c5 := blk_cell h 5
 have c6 := blk_cell h 6
 simp only [List.getElem?_toArray, List.getElem?_cons_zero, List.getElem?_cons_succ] at c0 c1 c2 c3 c4 c5 c6
 simp [results, Try.results24, go_sem, t2, t3, c0, c1, c2, c3, c4, c5, c6]
theorem TwPost.bad {s : ByteArray} {w w1 : World} {g2 : Nat} {e : Int} (hP : twccP s = (zeroT, e)) (hB : Below w.heap.size w w1) (h2 : w.heap.size ≤ g2) : TwPost s w (.returned (.tuple #[.agg #[.int .u32 0, .int .u32 0, .int .i64 0, .int .i64 0, .int .i64 0, .slice none 0 0, .slice none 0 0], .int .i64 e]))
  (((((((w1.setCell ⟨g2, 0, none⟩ (.int .u32 0)).setCell ⟨g2, 1, none⟩ (.int .u32 0)).setCell ⟨g2, 2, none⟩ (.int .i64 0)).setCell ⟨g2, 3, none⟩ (.int .i64 0)).setCell ⟨g2, 4, none⟩ (.int .i64 0)).setCell ⟨g2, 5, none⟩ (.slice none 0 0)).setCell ⟨g2, 6, none⟩ (.slice none 0 0)) :=
 ⟨.slice none 0 0, .slice none 0 0, by rw [hP]; rfl, by rw [hP]; exact RowV.nil _ _ _ _, by rw [hP]; exact RowV.nil _ _ _ _, ((((((hB.setCell (p := ⟨g2, 0, none⟩) h2 _).setCell (p := ⟨g2, 1, none⟩) h2 _).setCell (p := ⟨g2, 2, none⟩) h2 _).setCell (p := ⟨g2, 3, none⟩) h2 _).setCell (p := ⟨g2, 4, none⟩) h2 _).setCell (p := ⟨g2, 5, none⟩) h2 _).setCell (p := ⟨g2, 6, none⟩) h2 _⟩
theorem tw_2 {s : ByteArray} (h : 65536 < s.size) : twccP s = (zeroT, 2) := by unfold twccP; rw [if_pos h]
theorem tw_90 {s : ByteArray} (h1 : s.size ≤ 65536) (h : s.size % 4 ≠ 0) : twccP s = (zeroT, 90) := by unfold twccP; rw [if_neg (by omega), if_pos h]
theorem tw_60 {s : ByteArray} (h1 : s.size ≤ 65536) (h2 : s.size % 4 = 0) (h : s.size < 16) : twccP s = (zeroT, 60) := by unfold twccP; rw [if_neg (by omega), if_neg (by omega), if_pos h]
theorem tw_n0 {s : ByteArray} {n : Nat} (h1 : s.size ≤ 65536) (h2 : s.size % 4 = 0) (h3 : 16 ≤ s.size) (hn : n = rdBits s 80 16) (h : n = 0) : twccP s = (zeroT, 90) := by unfold twccP; rw [if_neg (by omega), if_neg (by omega), if_neg (by omega), ← hn, if_pos h]
theorem tw_n3 {s : ByteArray} {n : Nat} (h1 : s.size ≤ 65536) (h2 : s.size % 4 = 0) (h3 : 16 ≤ s.size) (hn : n = rdBits s 80 16) (h : 4096 < n) : twccP s = (zeroT, 3) := by unfold twccP; rw [if_neg (by omega), if_neg (by omega), if_neg (by omega), ← hn, if_neg (by omega), if_pos h]
theorem tw_st {s : ByteArray} {n : Nat} {e : Int} (h1 : s.size ≤ 65536) (h2 : s.size % 4 = 0) (h3 : 16 ≤ s.size) (hn : n = rdBits s 80 16) (h4 : n ≠ 0) (h5 : n ≤ 4096) (h : statsR s 128 n = .error e) : twccP s = (zeroT, e) := by unfold twccP; rw [if_neg (by omega), if_neg (by omega), if_neg (by omega), ← hn, if_neg h4, if_neg (by omega), h]
theorem tw_de {s : ByteArray} {n a : Nat} {l : List Int} (h1 : s.size ≤ 65536) (h2 : s.size % 4 = 0) (h3 : 16 ≤ s.size) (hn : n = rdBits s 80 16) (h4 : n ≠ 0) (h5 : n ≤ 4096) (h : statsR s 128 n = .ok (l, a)) (hd : deltasR s a l = none) : twccP s = (zeroT, 60) := by
 unfold twccP; rw [if_neg (by omega), if_neg (by omega), if_neg (by omega), ← hn, if_neg h4, if_neg (by omega), h]
 dsimp only
 rw [hd]
theorem tw_pad {s : ByteArray} {n a b : Nat} {l d : List Int} (h1 : s.size ≤ 65536) (h2 : s.size % 4 = 0) (h3 : 16 ≤ s.size) (hn : n = rdBits s 80 16) (h4 : n ≠ 0) (h5 : n ≤ 4096) (h : statsR s 128 n = .ok (l, a)) (hd : deltasR s a l = some (d, b)) (hp : 24 < 8 * s.size - b ∨ rdBits s b (8 * s.size - b) ≠ 0) : twccP s = (zeroT, 91) := by
 unfold twccP; rw [if_neg (by omega), if_neg (by omega), if_neg (by omega), ← hn, if_neg h4, if_neg (by omega), h]
 dsimp only
 rw [hd]
 dsimp only
 rw [if_pos hp]
theorem tw_ok {s : ByteArray} {n a b : Nat} {l d : List Int} (h1 : s.size ≤ 65536) (h2 : s.size % 4 = 0) (h3 : 16 ≤ s.size) (hn : n = rdBits s 80 16) (h4 : n ≠ 0) (h5 : n ≤ 4096) (h : statsR s 128 n = .ok (l, a)) (hd : deltasR s a l = some (d, b)) (hp : ¬ (24 < 8 * s.size - b ∨ rdBits s b (8 * s.size - b) ≠ 0)) : twccP s = (⟨(rdBits s 0 32 : Nat), (rdBits s 32 32 : Nat), (rdBits s 64 16 : Nat), signedP (rdBits s 96 24) 24, (rdBits s 120 8 : Nat), l, d⟩, 0) := by
 unfold twccP; rw [if_neg (by omega), if_neg (by omega), if_neg (by omega), ← hn, if_neg h4, if_neg (by omega), h]
 dsimp only
 rw [hd]
 dsimp only
 rw [if_neg hp]
structure TS (w0 w : World) (s : ByteArray) (p g2 g5 pos : Nat) (S M F B C : Int) (vl vd : Value) (l d : List Int) : Prop where
 rd : RdIs w p 139 s (pos : Int) false
 k2 : w.heap[g2]? = some (.cells #[.int .u32 0, .int .u32 0, .int .i64 0, .int .i64 0, .int .i64 0, .slice none 0 0, .slice none 0 0] 63 (0, 0))
 k5 : w.heap[g5]? = some (.cells #[.int .u32 S, .int .u32 M, .int .i64 F, .int .i64 B, .int .i64 C, vl, vd] 63 (0, 0))
 rl : RowV w w0.heap.size 3 1 vl l.length (iV l)
 rr : RowV w w0.heap.size 3 1 vd d.length (iV d)
 ap : vd.ownBlock = none ∨ vd.ownBlock ≠ vl.ownBlock
 bel : Below w0.heap.size w0 w
 wp : w0.heap.size ≤ p
 w2 : w0.heap.size ≤ g2
 w5 : w0.heap.size ≤ g5
 n25 : g2 ≠ g5
section
variable {w0 w w' w6 : World} {s : ByteArray} {p g2 g5 pos pos' : Nat} {S M F B C : Int} {vl vd v1 : Value} {l d c : List Int} {x : Int}
theorem TS.step (h : TS w0 w s p g2 g5 pos S M F B C vl vd l d) (hb : Below w.heap.size w w') : TS w0 w' s p g2 g5 pos S M F B C vl vd l d :=
 ⟨(hb.block p (blk_lt h.rd)).trans h.rd, (hb.block g2 (blk_lt h.k2)).trans h.k2, (hb.block g5 (blk_lt h.k5)).trans h.k5, h.rl.below hb, h.rr.below hb, h.ap, h.bel.trans (hb.mono h.bel.size), h.wp, h.w2, h.w5, h.n25⟩
theorem TS.np2 (h : TS w0 w s p g2 g5 pos S M F B C vl vd l d) : g2 ≠ p := fun e => by have a := h.k2; have b := h.rd; rw [e] at a; unfold RdIs at b; rw [a] at b; injection b with b; injection b with _ b; exact absurd b (by decide)
theorem TS.np5 (h : TS w0 w s p g2 g5 pos S M F B C vl vd l d) : g5 ≠ p := fun e => by have a := h.k5; have b := h.rd; rw [e] at a; unfold RdIs at b; rw [a] at b; injection b with b; injection b with _ b; exact absurd b (by decide)
theorem TS.get (h : TS w0 w s p g2 g5 pos S M F B C vl vd l d) (hg : w.grownBy w' (some p)) (hr : RdIs w' p 139 s (pos' : Int) false) : TS w0 w' s p g2 g5 pos' S M F B C vl vd l d :=
 ⟨hr, gb_blk hg h.k2 (fun k hk => by injection hk with hk; subst hk; exact h.np2), gb_blk hg h.k5 (fun k hk => by injection hk with hk; subst hk; exact h.np5), h.rl.gb hg (fun k hk => by injection hk with hk; subst hk; exact h.rl.ne h.rd (by decide)), h.rr.gb hg (fun k hk => by injection hk with hk; subst hk; exact h.rr.ne h.rd (by decide)), h.ap, gb_below h.bel h.wp hg, h.wp, h.w2, h.w5, h.n25⟩
theorem TS.two (h : TS w0 w s p g2 g5 pos S M F B C vl vd l d) (B' C' : Int) : TS w0 ((w.setCell ⟨g5, 3, none⟩ (.int .i64 B')).setCell ⟨g5, 4, none⟩ (.int .i64 C')) s p g2 g5 pos S M F B' C' vl vd l d := by
 have e_ := blk_set (blk_set h.k5 3 (.int .i64 B')) 4 (.int .i64 C')
 simp only [List.setIfInBounds_toArray, List.set_cons_zero, List.set_cons_succ] at e_
 have k : ∀ g, g ≠ g5 → ((w.setCell ⟨g5, 3, none⟩ (.int .i64 B')).setCell ⟨g5, 4, none⟩ (.int .i64 C')).heap[g]? = w.heap[g]? := fun g hg => (Below.heap_setCell _ (⟨g5, 4, none⟩ : Addr) _ g hg).trans (Below.heap_setCell _ (⟨g5, 3, none⟩ : Addr) _ g hg)
 have r : ∀ {v : Value} {n : Nat} {xs : List Value}, RowV w w0.heap.size 3 1 v n xs → RowV ((w.setCell ⟨g5, 3, none⟩ (.int .i64 B')).setCell ⟨g5, 4, none⟩ (.int .i64 C')) w0.heap.size 3 1 v n xs := fun hr => (hr.setCell (p := ⟨g5, 3, none⟩) _ (hr.ne h.k5 (by decide))).setCell (p := ⟨g5, 4, none⟩) _ (hr.ne h.k5 (by decide))
 exact ⟨(k p h.np5.symm).trans h.rd, (k g2 h.n25).trans h.k2, e_, r h.rl, r h.rr, h.ap, (h.bel.setCell (p := ⟨g5, 3, none⟩) h.w5 _).setCell (p := ⟨g5, 4, none⟩) h.w5 _, h.wp, h.w2, h.w5, h.n25⟩
theorem TS.stat (h : TS w0 w s p g2 g5 pos S M F B C vl (.slice none 0 0) l []) (hG : w.grownBy w6 vl.ownBlock) (hR : RowV w6 w0.heap.size 3 1 v1 (l.length + c.length) (iV l ++ iV c)) : TS w0 (w6.setCell ⟨g5, 5, none⟩ v1) s p g2 g5 pos S M F B C v1 (.slice none 0 0) (l ++ c) [] := by
 have k5 := gb_blkR hG h.rl h.k5 (by decide)
 have k2 := gb_blkR hG h.rl h.k2 (by decide)
 have rd : RdIs w6 p 139 s (pos : Int) false := gb_blkR hG h.rl h.rd (by decide)
 have e_ := blk_set k5 5 v1
 simp only [List.setIfInBounds_toArray, List.set_cons_zero, List.set_cons_succ] at e_
 refine ⟨(Below.heap_setCell w6 (⟨g5, 5, none⟩ : Addr) _ p h.np5.symm).trans rd, (Below.heap_setCell w6 (⟨g5, 5, none⟩ : Addr) _ g2 h.n25).trans k2, e_, ?_, RowV.nil _ _ _ _, .inl rfl, (below_new h.bel hG (fun k hk => (h.rl.lt hk).2.1)).setCell (p := ⟨g5, 5, none⟩) h.w5 _, h.wp, h.w2, h.w5, h.n25⟩
 rw [List.length_append, iV_append]
 exact hR.setCell (p := ⟨g5, 5, none⟩) _ (hR.ne k5 (by decide))
theorem TS.delt (h : TS w0 w s p g2 g5 pos S M F B C vl vd l d) (hG : w.grownBy w6 vd.ownBlock) (hR : RowV w6 w0.heap.size 3 1 v1 (d.length + 1) (iV d ++ [.int .i64 x])) (hO : ∀ k, v1.ownBlock = some k → vd.ownBlock = some k ∨ w.heap.size ≤ k) : TS w0 (w6.setCell ⟨g5, 6, none⟩ v1) s p g2 g5 pos S M F B C vl v1 l (d ++ [x]) := by
 have k5 := gb_blkR hG h.rr h.k5 (by decide)
 have k2 := gb_blkR hG h.rr h.k2 (by decide)
 have rd : RdIs w6 p 139 s (pos : Int) false := gb_blkR hG h.rr h.rd (by decide)
 have e_ := blk_set k5 6 v1
 simp only [List.setIfInBounds_toArray, List.set_cons_zero, List.set_cons_succ] at e_
 have rl := rows_apart h.rl hG h.ap
 refine ⟨(Below.heap_setCell w6 (⟨g5, 6, none⟩ : Addr) _ p h.np5.symm).trans rd, (Below.heap_setCell w6 (⟨g5, 6, none⟩ : Addr) _ g2 h.n25).trans k2, e_, rl.setCell (p := ⟨g5, 6, none⟩) _ (rl.ne k5 (by decide)), ?_, apart_next h.rl h.ap hO, (below_new h.bel hG (fun k hk => (h.rr.lt hk).2.1)).setCell (p := ⟨g5, 6, none⟩) h.w5 _, h.wp, h.w2, h.w5, h.n25⟩
 rw [List.length_append, iV_append]
 exact hR.setCell (p := ⟨g5, 6, none⟩) _ (hR.ne k5 (by decide))
end
def lenAt (g5 : Nat) (w : World) : Nat := match w.cell? ⟨g5, 5, none⟩ with
 | some (.slice _ n _) => n
 | _ => 0
theorem lenAt_is {w0 w : World} {s : ByteArray} {p g2 g5 pos : Nat} {S M F B C : Int} {A : Option Addr} {n c : Nat} {vd : Value} {l d : List Int} (h : TS w0 w s p g2 g5 pos S M F B C (.slice A n c) vd l d) : lenAt g5 w = n := by
 have c5 := blk_cell h.k5 5
 simp only [List.getElem?_toArray, List.getElem?_cons_zero, List.getElem?_cons_succ] at c5
 unfold lenAt
 rw [c5]
theorem atPR_is {w : World} {p : Nat} {s : ByteArray} {k : Nat} {b : Bool} (h : RdIs w p 139 s (k : Int) b) : atP p w = k := by
 have h1 := blk_cell h 1
 simp only [List.getElem?_toArray, List.getElem?_cons_zero, List.getElem?_cons_succ] at h1
 unfold atP
 rw [h1]
 simp [intOf]
def RL1 (w : World) (s : ByteArray) (p g2 g5 n : Nat) (S M F B C : Int) (wr : World) : Prop := ∃ (pos : Nat) (A : Option Addr) (c : Nat) (l : List Int), Aside0 (TS w wr s p g2 g5 pos S M F B C (.slice A l.length c) (.slice none 0 0) l []) ∧ l.length ≤ n ∧ pos ≤ 8 * s.size ∧ pos % 8 = 0 ∧ Aside0 (BehindS s n l pos)
def RL2 (w : World) (s : ByteArray) (p g2 g5 a : Nat) (S M F B C : Int) (A : Option Addr) (cc : Nat) (l : List Int) (v9 : Value) (wr : World) : Prop := ∃ (i pos : Nat) (Ad : Option Addr) (cd : Nat) (d : List Int), v9 = .int .i64 i ∧ i ≤ l.length ∧ d.length ≤ i ∧ Aside0 (TS w wr s p g2 g5 pos S M F B C (.slice A l.length cc) (.slice Ad d.length cd) l d) ∧ pos ≤ 8 * s.size ∧ pos % 8 = 0 ∧ Aside0 (BehindD s a l i d pos)
def RL3 (w : World) (s : ByteArray) (p g2 g5 b : Nat) (S M F B C : Int) (vl vd : Value) (l d : List Int) (wr : World) : Prop := ∃ pos : Nat, Aside0 (TS w wr s p g2 g5 pos S M F B C vl vd l d) ∧ b ≤ pos ∧ pos ≤ 8 * s.size ∧ pos % 8 = 0 ∧ Aside0 (rdBits s b (pos - b) = 0)
theorem pad_bad {s : ByteArray} {b y n : Nat} (h1 : b ≤ y) (h2 : y + 8 ≤ n) (hV : rdBits s y 8 ≠ 0) : rdBits s b (n - b) ≠ 0 := by
 rw [show n - b = (y - b) + 8 + (n - y - 8) by omega, rdBits_add, rdBits_add, show b + (y - b) = y by omega]
 have hp := Nat.two_pow_pos (n - y - 8)
 intro e
 have e1 := (Nat.add_eq_zero_iff.1 e).1
 rcases Nat.mul_eq_zero.1 e1 with e2 | e2
 ·exact hV (Nat.add_eq_zero_iff.1 e2).2
 ·omega
set_option maxHeartbeats 4000000 in
theorem rtwcc_short (s : ByteArray) (w : World) (hs : s.size ≤ 1000000) (h : 65536 < s.size ∨ s.size % 4 ≠ 0 ∨ s.size < 16) : Calls Try.prog 24 #[.string s] w (TwPost s w) := by
 have HK := Aside0.mk (blk_new w (.cells #[.int .u32 0, .int .u32 0, .int .i64 0, .int .i64 0, .int .i64 0, .slice none 0 0, .slice none 0 0] 63))
 by_cases c1 : 65536 < s.size
 ·have d1 : decide (65536 < (s.size : Int)) = true := decide_eq_true (by omega)
  have HP := Aside0.mk (tw_2 c1)
  clear h c1
  go_enter Try.func24, Try.ntmps24
  go_wp2_with fail
  (try simp only [Exit.inBlock, Exit.then])
  refine bodyPost_ret (rtw_load w.heap.size _ _ _ _ _ _ _ _ _ _ rfl rfl HK.out) rfl ?_
  exact ⟨.slice none 0 0, .slice none 0 0, by rw [HP.out]; rfl, by rw [HP.out]; exact RowV.nil _ _ _ _, by rw [HP.out]; exact RowV.nil _ _ _ _, (Below.refl _ _).alloc (Nat.le_refl _) _⟩
 have d1 : decide (65536 < (s.size : Int)) = false := decide_eq_false (by omega)
 by_cases c2 : s.size % 4 ≠ 0
 ·have d2 : (((s.size : Int) % 4) != 0) = true := by simp; omega
  have HP := Aside0.mk (tw_90 (by omega) c2)
  clear h c2
  go_enter Try.func24, Try.ntmps24
  go_wp2_with fail
  (try simp only [Exit.inBlock, Exit.then])
  refine bodyPost_ret (rtw_load w.heap.size _ _ _ _ _ _ _ _ _ _ rfl rfl HK.out) rfl ?_
  exact ⟨.slice none 0 0, .slice none 0 0, by rw [HP.out]; rfl, by rw [HP.out]; exact RowV.nil _ _ _ _, by rw [HP.out]; exact RowV.nil _ _ _ _, (Below.refl _ _).alloc (Nat.le_refl _) _⟩
 have d2 : (((s.size : Int) % 4) != 0) = false := by simp; omega
 have d3 : decide ((s.size : Int) < 16) = true := decide_eq_true (by omega)
 have HP := Aside0.mk (tw_60 (s := s) (by omega) (by omega) (by omega))
 clear h
 go_enter Try.func24, Try.ntmps24
 go_wp2_with fail
 (try simp only [Exit.inBlock, Exit.then])
 refine bodyPost_ret (rtw_load w.heap.size _ _ _ _ _ _ _ _ _ _ rfl rfl HK.out) rfl ?_
 exact ⟨.slice none 0 0, .slice none 0 0, by rw [HP.out]; rfl, by rw [HP.out]; exact RowV.nil _ _ _ _, by rw [HP.out]; exact RowV.nil _ _ _ _, (Below.refl _ _).alloc (Nat.le_refl _) _⟩
set_option maxHeartbeats 16000000 in
set_option maxRecDepth 100000 in
theorem rtwcc_long (s : ByteArray) (w : World) (h1 : s.size ≤ 65536) (h2 : s.size % 4 = 0) (h3 : 16 ≤ s.size) : Calls Try.prog 24 #[.string s] w (TwPost s w) := by
 have d1 : decide (65536 < (s.size : Int)) = false := decide_eq_false (by omega)
 have d2 : (((s.size : Int) % 4) != 0) = false := by simp; omega
 have d3 : decide ((s.size : Int) < 16) = false := decide_eq_false (by omega)
 go_enter Try.func24, Try.ntmps24
 go_wp2_with fail
 refine (rread_any _ s).mono ?_
 rintro e w1 ⟨rfl, rfl⟩
 have K2a := Aside0.mk (blk_new w (.cells #[.int .u32 0, .int .u32 0, .int .i64 0, .int .i64 0, .int .i64 0, .slice none 0 0, .slice none 0 0] 63))
 have RDa : RdIs ((w.alloc (.cells #[.int .u32 0, .int .u32 0, .int .i64 0, .int .i64 0, .int .i64 0, .slice none 0 0, .slice none 0 0] 63)).alloc (.cells #[.string s, .int .i64 0, .bool false] 139)) (w.heap.size + 1) 139 s ((0 : Nat) : Int) false := by
  have h := blk_new (w.alloc (.cells #[.int .u32 0, .int .u32 0, .int .i64 0, .int .i64 0, .int .i64 0, .slice none 0 0, .slice none 0 0] 63)) (.cells #[.string s, .int .i64 0, .bool false] 139)
  rw [show (w.alloc (.cells #[.int .u32 0, .int .u32 0, .int .i64 0, .int .i64 0, .int .i64 0, .slice none 0 0, .slice none 0 0] 63)).heap.size = w.heap.size + 1 by simp] at h
  exact h
 have K2 : Aside0 (((w.alloc (.cells #[.int .u32 0, .int .u32 0, .int .i64 0, .int .i64 0, .int .i64 0, .slice none 0 0, .slice none 0 0] 63)).alloc (.cells #[.string s, .int .i64 0, .bool false] 139)).heap[w.heap.size]? = some (.cells #[.int .u32 0, .int .u32 0, .int .i64 0, .int .i64 0, .int .i64 0, .slice none 0 0, .slice none 0 0] 63 (0, 0))) := ⟨gb_blk (World.grownBy_alloc _ _ none) K2a.out (fun k hk => by cases hk)⟩
 have HB : Aside0 (Below w.heap.size w ((w.alloc (.cells #[.int .u32 0, .int .u32 0, .int .i64 0, .int .i64 0, .int .i64 0, .slice none 0 0, .slice none 0 0] 63)).alloc (.cells #[.string s, .int .i64 0, .bool false] 139))) := ⟨((Below.refl _ _).alloc (Nat.le_refl _) _).alloc (by simp) _⟩
 obtain ⟨p, hp⟩ : ∃ p, p = w.heap.size + 1 := ⟨_, rfl⟩
 rw [show (w.alloc (.cells #[.int .u32 0, .int .u32 0, .int .i64 0, .int .i64 0, .int .i64 0, .slice none 0 0, .slice none 0 0] 63)).heap.size = p by rw [hp]; simp]
 rw [← hp] at RDa
 have RD := Aside0.mk RDa
 have nK2 : w.heap.size ≠ p := by omega
 have hwp : w.heap.size ≤ p := by omega
 clear hp RDa K2a
 generalize (w.alloc (.cells #[.int .u32 0, .int .u32 0, .int .i64 0, .int .i64 0, .int .i64 0, .slice none 0 0, .slice none 0 0] 63)).alloc (.cells #[.string s, .int .i64 0, .bool false] 139) = w1 at *
 obtain ⟨g2, hg2⟩ : ∃ g, g = w.heap.size := ⟨_, rfl⟩
 rw [← hg2] at K2 nK2 ⊢
 have hwg2 : w.heap.size ≤ g2 := Nat.le_of_eq hg2.symm
 clear hg2
 go_wp2_with fail
 refine (rget_good w1 p s (0) 32 RD.out (by omega) (by omega) (by omega)).mono ?_
 rintro e w2 ⟨rfl, hr_, hg_⟩
 replace RD : Aside0 (RdIs w2 p 139 s ((32 : Nat) : Int) false) := ⟨hr_⟩
 replace K2 := Aside0.mk (gb_blk hg_ K2.out (fun k hk => by injection hk with hk; subst hk; exact nK2))
 replace HB := Aside0.mk (gb_below HB.out hwp hg_)
 clear hg_ hr_
 obtain ⟨V0, hV0⟩ : ∃ V, V = rdBits s (0) 32 := ⟨_, rfl⟩
 have lV0 : V0 < 2 ^ 32 := by rw [hV0]; exact rdBits_lt _ _ _
 rw [← hV0]
 have HV0 := Aside0.mk hV0
 clear hV0
 go_wp2_with fail
 refine (rget_good w2 p s (32) 32 RD.out (by omega) (by omega) (by omega)).mono ?_
 rintro e w3 ⟨rfl, hr_, hg_⟩
 replace RD : Aside0 (RdIs w3 p 139 s ((64 : Nat) : Int) false) := ⟨hr_⟩
 replace K2 := Aside0.mk (gb_blk hg_ K2.out (fun k hk => by injection hk with hk; subst hk; exact nK2))
 replace HB := Aside0.mk (gb_below HB.out hwp hg_)
 clear hg_ hr_
 obtain ⟨V1, hV1⟩ : ∃ V, V = rdBits s (32) 32 := ⟨_, rfl⟩
 have lV1 : V1 < 2 ^ 32 := by rw [hV1]; exact rdBits_lt _ _ _
 rw [← hV1]
 have HV1 := Aside0.mk hV1
 clear hV1
 go_wp2_with fail
 refine (rget_good w3 p s (64) 16 RD.out (by omega) (by omega) (by omega)).mono ?_
 rintro e w4 ⟨rfl, hr_, hg_⟩
 replace RD : Aside0 (RdIs w4 p 139 s ((80 : Nat) : Int) false) := ⟨hr_⟩
 replace K2 := Aside0.mk (gb_blk hg_ K2.out (fun k hk => by injection hk with hk; subst hk; exact nK2))
 replace HB := Aside0.mk (gb_below HB.out hwp hg_)
 clear hg_ hr_
 obtain ⟨V2, hV2⟩ : ∃ V, V = rdBits s (64) 16 := ⟨_, rfl⟩
 have lV2 : V2 < 2 ^ 16 := by rw [hV2]; exact rdBits_lt _ _ _
 rw [← hV2]
 have HV2 := Aside0.mk hV2
 clear hV2
 go_wp2_with fail
 have hl4 := HB.out.size
 have h2l := blk_lt K2.out
 obtain ⟨g5, hg5⟩ : ∃ g, g = w4.heap.size := ⟨_, rfl⟩
 have HT : Aside0 (TS w (w4.alloc (.cells #[.int .u32 (V0 : Int), .int .u32 (V1 : Int), .int .i64 (V2 : Int), .int .i64 0, .int .i64 0, .slice none 0 0, .slice none 0 0] 63)) s p g2 g5 80 V0 V1 V2 0 0 (.slice none 0 0) (.slice none 0 0) [] []) := ⟨⟨gb_blk (World.grownBy_alloc w4 (.cells #[.int .u32 (V0 : Int), .int .u32 (V1 : Int), .int .i64 (V2 : Int), .int .i64 0, .int .i64 0, .slice none 0 0, .slice none 0 0] 63) none) RD.out (fun k hk => by cases hk), gb_blk (World.grownBy_alloc w4 (.cells #[.int .u32 (V0 : Int), .int .u32 (V1 : Int), .int .i64 (V2 : Int), .int .i64 0, .int .i64 0, .slice none 0 0, .slice none 0 0] 63) none) K2.out (fun k hk => by cases hk), by rw [hg5]; exact blk_new w4 _, RowV.nil _ _ _ _, RowV.nil _ _ _ _, .inl rfl, HB.out.alloc hl4 _, hwp, hwg2, by omega, by omega⟩⟩
 rw [← hg5]
 generalize w4.alloc (.cells #[.int .u32 (V0 : Int), .int .u32 (V1 : Int), .int .i64 (V2 : Int), .int .i64 0, .int .i64 0, .slice none 0 0, .slice none 0 0] 63) = w5 at *
 clear hg5 hl4 h2l K2 RD HB nK2
 refine (rget_good w5 p s (80) 16 HT.out.rd (by omega) (by omega) (by omega)).mono ?_
 rintro e w6 ⟨rfl, hr_, hg_⟩
 replace HT := Aside0.mk (HT.out.get (pos' := 96) hg_ hr_)
 clear hg_ hr_
 obtain ⟨n, hn⟩ : ∃ V, V = rdBits s (80) 16 := ⟨_, rfl⟩
 have ln : n < 2 ^ 16 := by rw [hn]; exact rdBits_lt _ _ _
 rw [← hn]
 have Hn := Aside0.mk hn
 clear hn
 go_wp2_with fail
 refine (rget_good w6 p s (96) 24 HT.out.rd (by omega) (by omega) (by omega)).mono ?_
 rintro e w7 ⟨rfl, hr_, hg_⟩
 replace HT := Aside0.mk (HT.out.get (pos' := 120) hg_ hr_)
 clear hg_ hr_
 obtain ⟨V4, hV4⟩ : ∃ V, V = rdBits s (96) 24 := ⟨_, rfl⟩
 have lV4 : V4 < 2 ^ 24 := by rw [hV4]; exact rdBits_lt _ _ _
 rw [← hV4]
 have HV4 := Aside0.mk hV4
 clear hV4
 go_wp2_with fail
 refine (rsigned_any V4 24 (.inl ⟨rfl, lV4⟩) w7).mono ?_
 rintro e w8 ⟨rfl, hd⟩
 replace HT := Aside0.mk (HT.out.step hd.below)
 clear hd
 obtain ⟨SB, hSB⟩ : ∃ B, B = signedP V4 24 := ⟨_, rfl⟩
 rw [← hSB]
 have HSB := Aside0.mk hSB
 clear hSB
 go_wp2_with fail
 refine (rget_good w8 p s (120) 8 HT.out.rd (by omega) (by omega) (by omega)).mono ?_
 rintro e w9 ⟨rfl, hr_, hg_⟩
 replace HT := Aside0.mk (HT.out.get (pos' := 128) hg_ hr_)
 clear hg_ hr_
 obtain ⟨V5, hV5⟩ : ∃ V, V = rdBits s (120) 8 := ⟨_, rfl⟩
 have lV5 : V5 < 2 ^ 8 := by rw [hV5]; exact rdBits_lt _ _ _
 rw [← hV5]
 have HV5 := Aside0.mk hV5
 clear hV5
 have c0 := blk_cell HT.out.k5 0
 have c1 := blk_cell HT.out.k5 1
 have c2 := blk_cell HT.out.k5 2
 have c3 := blk_cell HT.out.k5 3
 have c4 := blk_cell HT.out.k5 4
 have c5 := blk_cell HT.out.k5 5
 have c6 := blk_cell HT.out.k5 6
 simp only [List.getElem?_toArray, List.getElem?_cons_zero, List.getElem?_cons_succ] at c0 c1 c2 c3 c4 c5 c6
 have fc3 := blk_frozen HT.out.k5 3
 have fc4 := blk_frozen HT.out.k5 4
 go_upto_region 11 with fail
 clear c0 c1 c2 c3 c4 c5 c6 fc3 fc4
 replace HT := Aside0.mk (HT.out.two SB (V5 : Int))
 generalize (w9.setCell ⟨g5, 3, none⟩ (.int .i64 SB)).setCell ⟨g5, 4, none⟩ (.int .i64 (V5 : Int)) = w10 at *
 have hg5l := HT.out.w5
 by_cases z0 : n = 0
 ·have q0 : ((n : Int) == 0) = true := by rw [z0]; rfl
  have HP := Aside0.mk (tw_n0 h1 h2 h3 Hn.out z0)
  clear z0
  have x0 := blk_cell HT.out.k2 0
  have x1 := blk_cell HT.out.k2 1
  have x2 := blk_cell HT.out.k2 2
  have x3 := blk_cell HT.out.k2 3
  have x4 := blk_cell HT.out.k2 4
  have x5 := blk_cell HT.out.k2 5
  have x6 := blk_cell HT.out.k2 6
  simp only [List.getElem?_toArray, List.getElem?_cons_zero, List.getElem?_cons_succ] at x0 x1 x2 x3 x4 x5 x6
  have fx0 := blk_frozen HT.out.k2 0
  have fx1 := blk_frozen HT.out.k2 1
  have fx2 := blk_frozen HT.out.k2 2
  have fx3 := blk_frozen HT.out.k2 3
  have fx4 := blk_frozen HT.out.k2 4
  have fx5 := blk_frozen HT.out.k2 5
  have fx6 := blk_frozen HT.out.k2 6
  go_wp2_with fail
  (try simp only [Exit.inBlock, Exit.then])
  refine bodyPost_ret (rtw_load g2 _ _ _ _ _ _ _ _ _ _ rfl rfl (zset7 HT.out.k2 (.int .u32 0) (.int .u32 0) (.int .i64 0) (.int .i64 0) (.int .i64 0) (.slice none 0 0) (.slice none 0 0))) rfl ?_
  exact TwPost.bad HP.out HT.out.bel hwg2
 have q0 : ((n : Int) == 0) = false := by simp; omega
 by_cases z3 : 4096 < n
 ·have q3 : decide (4096 < (n : Int)) = true := decide_eq_true (by omega)
  have HP := Aside0.mk (tw_n3 h1 h2 h3 Hn.out z3)
  have x0 := blk_cell HT.out.k2 0
  have x1 := blk_cell HT.out.k2 1
  have x2 := blk_cell HT.out.k2 2
  have x3 := blk_cell HT.out.k2 3
  have x4 := blk_cell HT.out.k2 4
  have x5 := blk_cell HT.out.k2 5
  have x6 := blk_cell HT.out.k2 6
  simp only [List.getElem?_toArray, List.getElem?_cons_zero, List.getElem?_cons_succ] at x0 x1 x2 x3 x4 x5 x6
  have fx0 := blk_frozen HT.out.k2 0
  have fx1 := blk_frozen HT.out.k2 1
  have fx2 := blk_frozen HT.out.k2 2
  have fx3 := blk_frozen HT.out.k2 3
  have fx4 := blk_frozen HT.out.k2 4
  have fx5 := blk_frozen HT.out.k2 5
  have fx6 := blk_frozen HT.out.k2 6
  go_wp2_with fail
  (try simp only [Exit.inBlock, Exit.then])
  refine bodyPost_ret (rtw_load g2 _ _ _ _ _ _ _ _ _ _ rfl rfl (zset7 HT.out.k2 (.int .u32 0) (.int .u32 0) (.int .i64 0) (.int .i64 0) (.int .i64 0) (.slice none 0 0) (.slice none 0 0))) rfl ?_
  exact TwPost.bad HP.out HT.out.bel hwg2
 have q3 : decide (4096 < (n : Int)) = false := decide_eq_false (by omega)
 have hn4 : n ≤ 4096 := by omega
 have BS := Aside0.mk (BehindS.start s n)
 go_wp2_with fail
 go_loopw [7, 8] (fun _ _ wr => RL1 w s p g2 g5 n V0 V1 V2 SB V5 wr) (fun _ _ wr => n - lenAt g5 wr)
 case atStart => exact ⟨128, none, 0, [], HT, by simp, by omega, by omega, BS⟩
 case round =>
  clear HT BS
  obtain ⟨pos, A, c, l, HT, hln, hpos, hp8, BS⟩ := hrel
  have HLN := Aside0.mk (lenAt_is HT.out)
  have c5 := blk_cell HT.out.k5 5
  simp only [List.getElem?_toArray, List.getElem?_cons_zero, List.getElem?_cons_succ] at c5
  by_cases hlt : l.length < n
  ·have q4 : decide ((l.length : Int) < (n : Int)) = true := decide_eq_true (by omega)
   go_wp2_with fail
   refine (rleft_any wr p s (pos : Int) HT.out.rd (by omega) (by omega) (by omega)).mono ?_
   rintro e wA ⟨rfl, hd⟩
   replace HT := Aside0.mk (HT.out.step hd.below)
   clear hd c5
   by_cases z5 : 8 * s.size - pos < 16
   ·have q5 : decide (8 * (s.size : Int) - (pos : Int) < 16) = true := decide_eq_true (by omega)
    have hc : (chunkP s pos (n - l.length)).2 = 60 := by unfold chunkP; rw [if_pos z5]
    have HP := Aside0.mk (tw_st h1 h2 h3 Hn.out z0 hn4 (BS.out.bad (by omega) (by rw [hc]; decide)))
    rw [hc] at HP
    clear hc
    have x0 := blk_cell HT.out.k2 0
    have x1 := blk_cell HT.out.k2 1
    have x2 := blk_cell HT.out.k2 2
    have x3 := blk_cell HT.out.k2 3
    have x4 := blk_cell HT.out.k2 4
    have x5 := blk_cell HT.out.k2 5
    have x6 := blk_cell HT.out.k2 6
    simp only [List.getElem?_toArray, List.getElem?_cons_zero, List.getElem?_cons_succ] at x0 x1 x2 x3 x4 x5 x6
    have fx0 := blk_frozen HT.out.k2 0
    have fx1 := blk_frozen HT.out.k2 1
    have fx2 := blk_frozen HT.out.k2 2
    have fx3 := blk_frozen HT.out.k2 3
    have fx4 := blk_frozen HT.out.k2 4
    have fx5 := blk_frozen HT.out.k2 5
    have fx6 := blk_frozen HT.out.k2 6
    go_wp2_with fail
    (try simp only [Exit.inBlock, Exit.then])
    refine bodyPost_ret (rtw_load g2 _ _ _ _ _ _ _ _ _ _ rfl rfl (zset7 HT.out.k2 (.int .u32 0) (.int .u32 0) (.int .i64 0) (.int .i64 0) (.int .i64 0) (.slice none 0 0) (.slice none 0 0))) rfl ?_
    exact TwPost.bad HP.out HT.out.bel hwg2
   have q5 : decide (8 * (s.size : Int) - (pos : Int) < 16) = false := decide_eq_false (by omega)
   obtain ⟨⟨cl, ce⟩, hcl⟩ : ∃ c, c = chunkP s pos (n - l.length) := ⟨_, rfl⟩
   have HCL := Aside0.mk hcl
   have CH : Aside0 (∀ w : World, Calls Try.prog 53 #[.int .u32 ((rdBits s pos 16 : Nat) : Int), .int .i64 (wrap64 ((n : Int) - (l.length : Int)))] w fun e w' => ∃ v, e = .returned (.tuple #[v, .int .i64 ce]) ∧ RowV w' w.heap.size 3 1 v cl.length (iV cl) ∧ Below w.heap.size w w') := ⟨fun w => by
    have h := rchunk_any s pos (n - l.length) (by omega) (by omega) w
    rw [← HCL.out] at h
    rw [show wrap64 ((n : Int) - (l.length : Int)) = ((n - l.length : Nat) : Int) by unfold wrap64; omega]
    exact h⟩
   have G16 : Aside0 (∀ (w : World), RdIs w p 139 s (pos : Int) false → Calls Try.prog 47 #[.pointer (some ⟨p, 0, none⟩), .int .i64 16] w fun e w' => e = .returned (.int .u32 ((rdBits s pos 16 : Nat) : Int)) ∧ RdIs w' p 139 s (((pos + 16 : Nat)) : Int) false ∧ w.grownBy w' (some p)) := ⟨fun w h => rget_good w p s pos 16 h (by omega) (by omega) (by omega)⟩
   clear hcl
   go_wp2_with fail
   replace HT := Aside0.mk (HT.out.step (Below.refl wA.heap.size wA).drew)
   have c5 := blk_cell (w := wA) HT.out.k5 5
   simp only [List.getElem?_toArray, List.getElem?_cons_zero, List.getElem?_cons_succ] at c5
   refine start_ (n := 13) (S := fun w' => w'.cell? ⟨g5, 5, none⟩ = some (.slice A l.length c)) (ds := []) #[false, false, false, false, false, false, false, false, false, false, false, false, false] (by kernel_rfl) rfl rfl (c5) (fun hHeld => ?_)
   refine pure_ (i := 0) (N := some 62) (v := ?_) (a' := ?_) #[true, false, false, false, false, false, false, false, false, false, false, false, false] rfl rfl (by kernel_rfl) (fun _ _ _ h => h) (Or.inl ⟨by rfl, ?_⟩) ?_ ?_
   rotate_left
   ·intro w'
    go_simp
    with_reducible rfl
   rotate_left
   ·simp only [Act.put, List.setIfInBounds_toArray, List.set_cons_zero, List.set_cons_succ, i64_w, i32_w]
    rfl
   refine pure_ (i := 2) (N := some 64) (v := ?_) (a' := ?_) #[true, false, true, false, false, false, false, false, false, false, false, false, false] rfl rfl (by kernel_rfl) (fun _ _ _ h => h) (Or.inl ⟨by rfl, ?_⟩) ?_ ?_
   rotate_left
   ·intro w'
    go_simp
    with_reducible rfl
   rotate_left
   ·simp only [Act.put, List.setIfInBounds_toArray, List.set_cons_zero, List.set_cons_succ, i64_w, i32_w]
    rfl
   refine pure_ (i := 3) (N := some 65) (v := ?_) (a' := ?_) #[true, false, true, true, false, false, false, false, false, false, false, false, false] rfl rfl (by kernel_rfl) (fun _ _ _ h => h) (Or.inl ⟨by rfl, ?_⟩) ?_ ?_
   rotate_left
   ·intro w'
    go_simp
    with_reducible rfl
   rotate_left
   ·simp only [Act.put, List.setIfInBounds_toArray, List.set_cons_zero, List.set_cons_succ, i64_w, i32_w]
    rfl
   refine take_ (i := 4) (N := some 66) (v := ?_) (a' := ?_) #[true, false, true, true, true, false, false, false, false, false, false, false, false] rfl rfl (by kernel_rfl) (fun _ _ _ h => h) (Or.inl ⟨by rfl, ?_⟩) hHeld ?_ ?_
   rotate_left
   ·intro w' s0
    go_simp
    with_reducible rfl
   rotate_left
   ·simp only [Act.put, List.setIfInBounds_toArray, List.set_cons_zero, List.set_cons_succ, i64_w, i32_w]
    rfl
   refine pure_ (i := 5) (N := some 67) (v := ?_) (a' := ?_) #[true, false, true, true, true, true, false, false, false, false, false, false, false] rfl rfl (by kernel_rfl) (fun _ _ _ h => h) (Or.inl ⟨by rfl, ?_⟩) ?_ ?_
   rotate_left
   ·intro w'
    go_simp
    with_reducible rfl
   rotate_left
   ·simp only [Act.put, List.setIfInBounds_toArray, List.set_cons_zero, List.set_cons_succ, i64_w, i32_w]
    rfl
   refine pure_ (i := 6) (N := some 68) (v := ?_) (a' := ?_) #[true, false, true, true, true, true, true, false, false, false, false, false, false] rfl rfl (by kernel_rfl) (fun _ _ _ h => h) (Or.inl ⟨by rfl, ?_⟩) ?_ ?_
   rotate_left
   ·intro w'
    go_simp
    with_reducible rfl
   rotate_left
   ·simp only [Act.put, List.setIfInBounds_toArray, List.set_cons_zero, List.set_cons_succ, i64_w, i32_w]
    rfl
   refine one_ (i := 1) (N := some 63) #[true, true, true, true, true, true, true, false, false, false, false, false, false] rfl rfl (by kernel_rfl) (by decide) (fun K hK => ?_)
   refine goes_ Try.func47 (by kernel_rfl) rfl #[.pointer (some ⟨p, 0, none⟩), .int .i64 16] (by rfl) rfl rfl (by simp only [List.map_toArray, List.map_cons, List.map_nil]; rfl) ?_
   with_reducible refine (G16.out _ HT.out.rd).mono ?_
   rintro e wB ⟨rfl, hr_, hg_⟩
   refine ⟨_, rfl, ?_⟩
   have T3 := Aside0.mk (HT.out.get (pos' := pos + 16) hg_ hr_)
   have y5 := blk_cell T3.out.k5 5
   simp only [List.getElem?_toArray, List.getElem?_cons_zero, List.getElem?_cons_succ] at y5
   clear hr_ hg_
   refine hK.out _ _ (y5) (fun hHeld => ?_)
   clear hK K
   refine norm_ (a' := ?_) ?_ ?_
   rotate_left
   ·show Act.put _ (some 63) _ = _
    simp only [Act.put, List.setIfInBounds_toArray, List.set_cons_zero, List.set_cons_succ, i64_w, i32_w]
    rfl
   refine one_ (i := 7) (N := some 69) #[true, true, true, true, true, true, true, true, false, false, false, false, false] rfl rfl (by kernel_rfl) (by decide) (fun K hK => ?_)
   refine goes_ Try.func53 (by kernel_rfl) rfl #[.int .u32 ((rdBits s pos 16 : Nat) : Int), .int .i64 (wrap64 ((n : Int) - (l.length : Int)))] (by rfl) rfl rfl (by simp only [List.map_toArray, List.map_cons, List.map_nil]; rfl) ?_
   with_reducible refine (CH.out _).mono ?_
   rintro e wC ⟨vc, rfl, hRc, hBc⟩
   refine ⟨_, rfl, ?_⟩
   obtain ⟨Ac, cc, rfl, -, -⟩ := hRc.form
   have T4 := Aside0.mk (T3.out.step hBc)
   have HRc := Aside0.mk (hRc.low T3.out.bel.size)
   have z5c := blk_cell T4.out.k5 5
   simp only [List.getElem?_toArray, List.getElem?_cons_zero, List.getElem?_cons_succ] at z5c
   clear hRc hBc
   refine hK.out _ _ (z5c) (fun hHeld => ?_)
   clear hK K
   refine norm_ (a' := ?_) ?_ ?_
   rotate_left
   ·show Act.put _ (some 69) _ = _
    simp only [Act.put, List.setIfInBounds_toArray, List.set_cons_zero, List.set_cons_succ, i64_w, i32_w]
    rfl
   refine pure_ (i := 8) (N := some 61) (v := ?_) (a' := ?_) #[true, true, true, true, true, true, true, true, true, false, false, false, false] rfl rfl (by kernel_rfl) (fun _ _ _ h => h) (Or.inl ⟨by rfl, ?_⟩) ?_ ?_
   rotate_left
   ·intro w'
    go_simp
    with_reducible rfl
   rotate_left
   ·simp only [Act.put, List.setIfInBounds_toArray, List.set_cons_zero, List.set_cons_succ, i64_w, i32_w]
    rfl
   refine pure_ (i := 9) (N := some 70) (v := ?_) (a' := ?_) #[true, true, true, true, true, true, true, true, true, true, false, false, false] rfl rfl (by kernel_rfl) (fun _ _ _ h => h) (Or.inl ⟨by rfl, ?_⟩) ?_ ?_
   rotate_left
   ·intro w'
    go_simp
    with_reducible rfl
   rotate_left
   ·simp only [Act.put, List.setIfInBounds_toArray, List.set_cons_zero, List.set_cons_succ, i64_w, i32_w]
    rfl
   refine pure_ (i := 10) (N := some 71) (v := ?_) (a' := ?_) #[true, true, true, true, true, true, true, true, true, true, true, false, false] rfl rfl (by kernel_rfl) (fun _ _ _ h => h) (Or.inl ⟨by rfl, ?_⟩) ?_ ?_
   rotate_left
   ·intro w'
    go_simp
    with_reducible rfl
   rotate_left
   ·simp only [Act.put, List.setIfInBounds_toArray, List.set_cons_zero, List.set_cons_succ, i64_w, i32_w]
    rfl
   refine pure_ (i := 11) (N := some 7) (v := ?_) (a' := ?_) #[true, true, true, true, true, true, true, true, true, true, true, true, false] rfl rfl (by kernel_rfl) (fun _ _ _ h => h) (Or.inl ⟨by rfl, ?_⟩) ?_ ?_
   rotate_left
   ·intro w'
    go_simp
    with_reducible rfl
   rotate_left
   ·simp only [Act.put, List.setIfInBounds_toArray, List.set_cons_zero, List.set_cons_succ, i64_w, i32_w]
    rfl
   refine pure_ (i := 12) (N := some 8) (v := ?_) (a' := ?_) #[true, true, true, true, true, true, true, true, true, true, true, true, true] rfl rfl (by kernel_rfl) (fun _ _ _ h => h) (Or.inl ⟨by rfl, ?_⟩) ?_ ?_
   rotate_left
   ·intro w'
    go_simp
    with_reducible rfl
   rotate_left
   ·simp only [Act.put, List.setIfInBounds_toArray, List.set_cons_zero, List.set_cons_succ, i64_w, i32_w]
    rfl
   refine done_ (by kernel_rfl) ?_
   clear c5 y5 z5c HT T3 G16 CH
   try clear hHeld
   have HT := T4
   clear T4
   by_cases zc : ce = 0
   ·have q6 : (ce != 0) = false := by simp [zc]
    have hce : (chunkP s pos (n - l.length)).2 = 0 := by rw [← HCL.out]; exact zc
    have BN := Aside0.mk (BS.out.next (by omega) hce)
    rw [← HCL.out] at BN
    dsimp only at BN
    have hcp := chunkP_pos hce (by omega)
    have hcl2 := @chunkP_len s pos (n - l.length)
    rw [← HCL.out] at hcp hcl2
    dsimp only at hcp hcl2
    have ZC := Aside0.mk zc
    clear zc hce BS
    obtain ⟨ga, oa, ca, e_, _, _, _, hxa⟩ := HRc.out.some_ hcp
    injection e_ with e_ _ e2_
    subst e_
    subst e2_
    have HNX : Aside0 (∀ j u, (iV cl)[j]? = some u → wC.cell? ((⟨ga, oa, none⟩ : Addr).add j) = some u) := ⟨fun j u hj => by
     rw [Addr.add_lit]
     exact hxa j u hj⟩
    have HBX : Aside0 (w.heap.size ≤ wC.heap.size) := ⟨HT.out.bel.size⟩
    clear hxa
    have c5 := blk_cell HT.out.k5 5
    simp only [List.getElem?_toArray, List.getElem?_cons_zero, List.getElem?_cons_succ] at c5
    obtain ⟨nl, hnl⟩ : ∃ n, n = l.length := ⟨_, rfl⟩
    have HTL := HT.out.rl
    rw [← hnl] at c5 HTL
    have HTR := Aside0.mk HTL
    have HNL := Aside0.mk hnl
    rw [← hnl] at hcl2
    have hnn : nl ≤ n := by omega
    have hg5a := blk_lt HT.out.k5
    clear HTL
    rw [← hnl]
    clear hnl
    go_wp2_with (at_builtin; go_loud (refine row_append (w := wC) rfl (.tmp 77) (.tmp 78) 24 rfl 3 Try.t3 (.int .i64 0) 1 8 Try.underlying24 (by kernel_rfl) rfl rfl rfl (by decide) (by decide) w.heap.size (.slice A nl c) nl (iV l) (by rfl) HTR.out ⟨ga, oa, none⟩ cl.length cc (iV cl) (by rfl) (by rw [iV_length, Nat.mul_one]) HNX.out (iV_one cl) (by simp only [maxLen]; omega) (by omega) HBX.out ?_); intro v1 w6_ hR6 hG6 hO6 hF6; have X6 := hR6; rw [HNL.out] at X6; have TN := Aside0.mk (HT.out.stat (by rw [← HNL.out]; exact hG6) X6); obtain ⟨g6, o6, c6_, rfl, hb6, hn6, hc6, hx6⟩ := hR6.some_ (by omega); have u5 := blk_cell (gb_blkR hG6 HTR.out HT.out.k5 (by decide)) 5; have u5f := blk_frozen (gb_blkR hG6 HTR.out HT.out.k5 (by decide)) 5; simp only [List.getElem?_toArray, List.getElem?_cons_zero, List.getElem?_cons_succ] at u5; clear X6 hx6 hR6 hG6 hO6 hF6 c5)
    refine ⟨⟨pos + 16, some ⟨g6, o6, none⟩, c6_, l ++ cl, ⟨?_⟩, by rw [List.length_append, ← HNL.out]; omega, by omega, by omega, BN⟩, ?_⟩
    ·rw [List.length_append, ← HNL.out]
     exact TN.out
    ·have e1 := HLN.out
     have e2 := lenAt_is TN.out
     rw [HNL.out] at hcl2
     show n - lenAt g5 _ < n - lenAt g5 wr
     rw [e1, e2]
     have := HNL.out
     omega
   ·have q6 : (ce != 0) = true := by simp [zc]
    have HP := Aside0.mk (tw_st h1 h2 h3 Hn.out z0 hn4 (BS.out.bad (by omega) (by rw [← HCL.out]; exact zc)))
    rw [← HCL.out] at HP
    dsimp only at HP
    have x0 := blk_cell HT.out.k2 0
    have x1 := blk_cell HT.out.k2 1
    have x2 := blk_cell HT.out.k2 2
    have x3 := blk_cell HT.out.k2 3
    have x4 := blk_cell HT.out.k2 4
    have x5 := blk_cell HT.out.k2 5
    have x6 := blk_cell HT.out.k2 6
    simp only [List.getElem?_toArray, List.getElem?_cons_zero, List.getElem?_cons_succ] at x0 x1 x2 x3 x4 x5 x6
    have fx0 := blk_frozen HT.out.k2 0
    have fx1 := blk_frozen HT.out.k2 1
    have fx2 := blk_frozen HT.out.k2 2
    have fx3 := blk_frozen HT.out.k2 3
    have fx4 := blk_frozen HT.out.k2 4
    have fx5 := blk_frozen HT.out.k2 5
    have fx6 := blk_frozen HT.out.k2 6
    go_wp2_with fail
    (try simp only [Exit.inBlock, Exit.then])
    refine bodyPost_ret (rtw_load g2 _ _ _ _ _ _ _ _ _ _ rfl rfl (zset7 HT.out.k2 (.int .u32 0) (.int .u32 0) (.int .i64 0) (.int .i64 0) (.int .i64 0) (.slice none 0 0) (.slice none 0 0))) rfl ?_
    exact TwPost.bad HP.out HT.out.bel hwg2
  ·have q4 : decide ((l.length : Int) < (n : Int)) = false := decide_eq_false (by omega)
   have hle : n = l.length := by omega
   have HST := Aside0.mk (BS.out.done (by omega))
   have hsts := Aside0.mk ((statsR_ok s _ 128 _ l pos (Nat.le_refl _) HST.out).2)
   have BD := Aside0.mk (BehindD.start s pos l)
   have HLE := Aside0.mk hle
   have hll : l.length ≤ 4096 := by omega
   rw [show (n : Int) = (l.length : Int) by omega]
   clear hle BS hlt hln HLN q0 q3 z3 hn4
   go_wp2_with fail
   clear c5
   go_loopw [9, 10, 11] (fun v9 _ _ wr => RL2 w s p g2 g5 pos V0 V1 V2 SB V5 A c l v9 wr) (fun v _ _ _ => l.length - (intOf v).toNat)
   case atStart => exact ⟨0, pos, none, 0, [], rfl, by omega, by simp, HT, hpos, hp8, BD⟩
   case round =>
    clear HT BD
    obtain ⟨i, b, Ad, cd, d, rfl, hi, hdi, HT, hb, hb8, BD⟩ := hrel
    by_cases hil : i < l.length
    ·have q7 : decide ((i : Int) < (l.length : Int)) = true := decide_eq_true (by omega)
     obtain ⟨x, hx⟩ : ∃ x, l[i]? = some x := ⟨l[i]'hil, List.getElem?_eq_getElem hil⟩
     have hx3 := hsts.out x (List.mem_of_getElem? hx)
     obtain ⟨ga, oa, ca, e_, _, _, _, hxa⟩ := HT.out.rl.some_ (by omega)
     injection e_ with e_ _ e2_
     subst e_
     subst e2_
     have ux := hxa i (.int .i64 x) (by simp [iV, hx])
     have i0 : (0 : Int) ≤ (i : Int) := by omega
     have i1 : (i : Int) < (l.length : Int) := by omega
     have HX := Aside0.mk hx
     have c5 := blk_cell HT.out.k5 5
     simp only [List.getElem?_toArray, List.getElem?_cons_zero, List.getElem?_cons_succ] at c5
     clear hx hxa
     rcases hx3 with rfl | rfl | rfl
     ·have BN := Aside0.mk (BD.out.skip HX.out (by decide) (by decide))
      go_wp2_with fail
      exact ⟨⟨i + 1, b, Ad, cd, d, by simp, by omega, by omega, HT, hb, hb8, BN⟩, by simp [intOf]; omega⟩
     ·go_wp2_with fail
      clear c5 ux
      refine (rleft_any wr p s (b : Int) HT.out.rd (by omega) (by omega) (by omega)).mono ?_
      rintro e wY ⟨rfl, hd⟩
      replace HT := Aside0.mk (HT.out.step hd.below)
      clear hd
      by_cases z8 : 8 * s.size - b < 8
      ·have q8 : decide (8 * (s.size : Int) - (b : Int) < 8) = true := decide_eq_true (by omega)
       have HP := Aside0.mk (tw_de h1 h2 h3 Hn.out z0 (by rw [HLE.out]; exact hll) HST.out (BD.out.over1 HX.out (by omega)))
       have x0 := blk_cell HT.out.k2 0
       have x1 := blk_cell HT.out.k2 1
       have x2 := blk_cell HT.out.k2 2
       have x3 := blk_cell HT.out.k2 3
       have x4 := blk_cell HT.out.k2 4
       have x5 := blk_cell HT.out.k2 5
       have x6 := blk_cell HT.out.k2 6
       simp only [List.getElem?_toArray, List.getElem?_cons_zero, List.getElem?_cons_succ] at x0 x1 x2 x3 x4 x5 x6
       have fx0 := blk_frozen HT.out.k2 0
       have fx1 := blk_frozen HT.out.k2 1
       have fx2 := blk_frozen HT.out.k2 2
       have fx3 := blk_frozen HT.out.k2 3
       have fx4 := blk_frozen HT.out.k2 4
       have fx5 := blk_frozen HT.out.k2 5
       have fx6 := blk_frozen HT.out.k2 6
       go_wp2_with fail
       (try simp only [Exit.inBlock, Exit.then])
       refine bodyPost_ret (rtw_load g2 _ _ _ _ _ _ _ _ _ _ rfl rfl (zset7 HT.out.k2 (.int .u32 0) (.int .u32 0) (.int .i64 0) (.int .i64 0) (.int .i64 0) (.slice none 0 0) (.slice none 0 0))) rfl ?_
       exact TwPost.bad HP.out HT.out.bel hwg2
      have q8 : decide (8 * (s.size : Int) - (b : Int) < 8) = false := decide_eq_false (by omega)
      have BN := Aside0.mk (BD.out.one HX.out (by omega))
      go_wp2_with fail
      refine (rget_good wY p s (b) 8 HT.out.rd (by omega) (by omega) (by omega)).mono ?_
      rintro e wZ ⟨rfl, hr_, hg_⟩
      replace HT := Aside0.mk (HT.out.get (pos' := b + 8) hg_ hr_)
      clear hg_ hr_
      obtain ⟨V, hV⟩ : ∃ V, V = rdBits s (b) 8 := ⟨_, rfl⟩
      have lV : V < 2 ^ 8 := by rw [hV]; exact rdBits_lt _ _ _
      rw [← hV]
      have HV := Aside0.mk hV
      clear hV
      rw [← HV.out] at BN
      have hVV : (V : Int) ≤ 255 := by omega
      have TX := Aside0.mk (HT.out.step ((Below.refl wZ.heap.size wZ).alloc (Nat.le_refl _) (.cells #[.int .i64 (V : Int)] 3)))
      have HNX : Aside0 (∀ j u, ([.int .i64 (V : Int)] : List Value)[j]? = some u → (wZ.alloc (.cells #[.int .i64 (V : Int)] 3)).cell? ((⟨wZ.heap.size, 0, none⟩ : Addr).add j) = some u) := ⟨new_news wZ [.int .i64 (V : Int)] 3⟩
      have HBX : Aside0 (w.heap.size ≤ (wZ.alloc (.cells #[.int .i64 (V : Int)] 3)).heap.size) := ⟨TX.out.bel.size⟩
      have c6 := blk_cell HT.out.k5 6
      simp only [List.getElem?_toArray, List.getElem?_cons_zero, List.getElem?_cons_succ] at c6
      have hg5a := blk_lt HT.out.k5
      obtain ⟨nd, hnd⟩ : ∃ n, n = d.length := ⟨_, rfl⟩
      have HTD := TX.out.rr
      rw [← hnd] at c6 HTD hdi
      have HTR := Aside0.mk HTD
      have HND := Aside0.mk hnd
      clear HTD hnd
      go_wp2_with (at_builtin; go_loud (refine row_append (w := wZ.alloc (.cells #[.int .i64 (V : Int)] 3)) rfl (.tmp 109) (.tmp 112) 24 rfl 3 Try.t3 (.int .i64 0) 1 8 Try.underlying24 (by kernel_rfl) rfl rfl rfl (by decide) (by decide) w.heap.size (.slice Ad nd cd) nd (iV d) (by rfl) HTR.out ⟨wZ.heap.size, 0, none⟩ 1 1 [.int .i64 (V : Int)] (by rfl) rfl HNX.out (by simp [Value.oneCell']) (by simp only [maxLen]; omega) (by omega) HBX.out ?_); intro v1 w6_ hR6 hG6 hO6 hF6; have X6 := hR6; rw [HND.out] at X6; have TN := Aside0.mk (TX.out.delt (x := (V : Int)) (by rw [← HND.out]; exact hG6) X6 (by rw [← HND.out]; exact hO6)); obtain ⟨g6, o6, c6_, rfl, hb6, hn6, hc6, hx6⟩ := hR6.some_ (by omega); have u6 := blk_cell (gb_blkR hG6 HTR.out TX.out.k5 (by decide)) 6; have u6f := blk_frozen (gb_blkR hG6 HTR.out TX.out.k5 (by decide)) 6; simp only [List.getElem?_toArray, List.getElem?_cons_zero, List.getElem?_cons_succ] at u6; clear X6 hx6 hR6 hG6 hO6 hF6 c6)
      refine ⟨⟨i + 1, b + 8, some ⟨g6, o6, none⟩, c6_, d ++ [(V : Int)], by simp, by omega, by rw [List.length_append, ← HND.out]; simp; omega, ⟨?_⟩, by omega, by omega, BN⟩, by simp [intOf]; omega⟩
      rw [List.length_append, ← HND.out]
      exact TN.out
     ·go_wp2_with fail
      clear c5 ux
      refine (rleft_any wr p s (b : Int) HT.out.rd (by omega) (by omega) (by omega)).mono ?_
      rintro e wY ⟨rfl, hd⟩
      replace HT := Aside0.mk (HT.out.step hd.below)
      clear hd
      by_cases z8 : 8 * s.size - b < 16
      ·have q8 : decide (8 * (s.size : Int) - (b : Int) < 16) = true := decide_eq_true (by omega)
       have HP := Aside0.mk (tw_de h1 h2 h3 Hn.out z0 (by rw [HLE.out]; exact hll) HST.out (BD.out.over2 HX.out (by omega)))
       have x0 := blk_cell HT.out.k2 0
       have x1 := blk_cell HT.out.k2 1
       have x2 := blk_cell HT.out.k2 2
       have x3 := blk_cell HT.out.k2 3
       have x4 := blk_cell HT.out.k2 4
       have x5 := blk_cell HT.out.k2 5
       have x6 := blk_cell HT.out.k2 6
       simp only [List.getElem?_toArray, List.getElem?_cons_zero, List.getElem?_cons_succ] at x0 x1 x2 x3 x4 x5 x6
       have fx0 := blk_frozen HT.out.k2 0
       have fx1 := blk_frozen HT.out.k2 1
       have fx2 := blk_frozen HT.out.k2 2
       have fx3 := blk_frozen HT.out.k2 3
       have fx4 := blk_frozen HT.out.k2 4
       have fx5 := blk_frozen HT.out.k2 5
       have fx6 := blk_frozen HT.out.k2 6
       go_wp2_with fail
       (try simp only [Exit.inBlock, Exit.then])
       refine bodyPost_ret (rtw_load g2 _ _ _ _ _ _ _ _ _ _ rfl rfl (zset7 HT.out.k2 (.int .u32 0) (.int .u32 0) (.int .i64 0) (.int .i64 0) (.int .i64 0) (.slice none 0 0) (.slice none 0 0))) rfl ?_
       exact TwPost.bad HP.out HT.out.bel hwg2
      have q8 : decide (8 * (s.size : Int) - (b : Int) < 16) = false := decide_eq_false (by omega)
      have BN := Aside0.mk (BD.out.two HX.out (by omega))
      go_wp2_with fail
      refine (rget_good wY p s (b) 16 HT.out.rd (by omega) (by omega) (by omega)).mono ?_
      rintro e wZ ⟨rfl, hr_, hg_⟩
      replace HT := Aside0.mk (HT.out.get (pos' := b + 16) hg_ hr_)
      clear hg_ hr_
      obtain ⟨V, hV⟩ : ∃ V, V = rdBits s (b) 16 := ⟨_, rfl⟩
      have lV : V < 2 ^ 16 := by rw [hV]; exact rdBits_lt _ _ _
      rw [← hV]
      have HV := Aside0.mk hV
      clear hV
      rw [← HV.out] at BN
      obtain ⟨SV, hSV⟩ : ∃ x, x = signedP V 16 := ⟨_, rfl⟩
      rw [← hSV] at BN
      have CS : Aside0 (∀ w : World, Calls Try.prog 52 #[.int .u32 (V : Int), .int .i64 16] w fun e w' => e = .returned (.int .i64 SV) ∧ Drawn0 w w') := ⟨fun w => by rw [hSV]; exact rsigned_any V 16 (.inr ⟨rfl, lV⟩) w⟩
      clear hSV
      have c6 := blk_cell HT.out.k5 6
      simp only [List.getElem?_toArray, List.getElem?_cons_zero, List.getElem?_cons_succ] at c6
      go_wp2_with fail
      obtain ⟨nd, hnd⟩ : ∃ n, n = d.length := ⟨_, rfl⟩
      rw [← hnd] at c6 hdi
      have HND := Aside0.mk hnd
      replace HT := Aside0.mk (HT.out.step (Below.refl wZ.heap.size wZ).drew)
      clear hnd
      refine start_ (n := 8) (S := fun w' => w'.cell? ⟨g5, 6, none⟩ = some (.slice Ad nd cd)) (ds := [5, 7]) #[false, false, false, false, false, false, false, false] (by kernel_rfl) rfl rfl (c6) (fun hHeld => ?_)
      refine pure_ (i := 0) (N := some 115) (v := ?_) (a' := ?_) #[true, false, false, false, false, false, false, false] rfl rfl (by kernel_rfl) (fun _ _ _ h => h) (Or.inl ⟨by rfl, ?_⟩) ?_ ?_
      rotate_left
      ·intro w'
       go_simp
       with_reducible rfl
      rotate_left
      ·simp only [Act.put, List.setIfInBounds_toArray, List.set_cons_zero, List.set_cons_succ, i64_w, i32_w]
       rfl
      refine pure_ (i := 2) (N := some 117) (v := ?_) (a' := ?_) #[true, false, true, false, false, false, false, false] rfl rfl (by kernel_rfl) (fun _ _ _ h => h) (Or.inl ⟨by rfl, ?_⟩) ?_ ?_
      rotate_left
      ·intro w'
       go_simp
       with_reducible rfl
      rotate_left
      ·simp only [Act.put, List.setIfInBounds_toArray, List.set_cons_zero, List.set_cons_succ, i64_w, i32_w]
       rfl
      refine take_ (i := 1) (N := some 116) (v := ?_) (a' := ?_) #[true, true, true, false, false, false, false, false] rfl rfl (by kernel_rfl) (fun _ _ _ h => h) (Or.inl ⟨by rfl, ?_⟩) hHeld ?_ ?_
      rotate_left
      ·intro w' s0
       go_simp
       with_reducible rfl
      rotate_left
      ·simp only [Act.put, List.setIfInBounds_toArray, List.set_cons_zero, List.set_cons_succ, i64_w, i32_w]
       rfl
      refine one_ (i := 3) (N := some 118) #[true, true, true, true, false, false, false, false] rfl rfl (by kernel_rfl) (by decide) (fun K hK => ?_)
      refine goes_ Try.func52 (by kernel_rfl) rfl #[.int .u32 (V : Int), .int .i64 16] (by rfl) rfl rfl (by simp only [List.map_toArray, List.map_cons, List.map_nil]; rfl) ?_
      with_reducible refine (CS.out _).mono ?_
      rintro e w3 ⟨rfl, hd3⟩
      refine ⟨_, rfl, ?_⟩
      have T3 := Aside0.mk (HT.out.step hd3.below)
      have y6 := blk_cell T3.out.k5 6
      simp only [List.getElem?_toArray, List.getElem?_cons_zero, List.getElem?_cons_succ] at y6
      rw [← HND.out] at y6
      have z6 : ∀ o, (w3.alloc o).cell? ⟨g5, 6, none⟩ = some (.slice Ad nd cd) := fun o => (World.cell?_alloc_past _ _ _ (blk_lt T3.out.k5)).trans y6
      clear hd3
      refine hK.out _ _ (y6) (fun hHeld => ?_)
      clear hK K
      refine norm_ (a' := ?_) ?_ ?_
      rotate_left
      ·show Act.put _ (some 118) _ = _
       simp only [Act.put, List.setIfInBounds_toArray, List.set_cons_zero, List.set_cons_succ, i64_w, i32_w]
       rfl
      refine one_ (i := 4) (N := some 119) #[true, true, true, true, true, false, false, false] rfl rfl (by kernel_rfl) (by decide) (fun K hK => ?_)
      refine value_ (w1 := ?_) (v := ?_) (by rfl) rfl ?_ ?_
      rotate_left 2
      ·go_simp
       constructor
       ·rfl
       ·rfl
      refine hK.out _ _ ((z6 _)) (fun hHeld => ?_)
      clear hK K
      refine norm_ (a' := ?_) ?_ ?_
      rotate_left
      ·show Act.put _ (some 119) _ = _
       simp only [Act.put, List.setIfInBounds_toArray, List.set_cons_zero, List.set_cons_succ, i64_w, i32_w]
       rfl
      refine last_ (i := 5) (N := some 120) #[true, true, true, true, true, true, false, false] rfl rfl (by kernel_rfl) (by decide) (fun K hK => ?_)
      have TX := Aside0.mk (T3.out.step ((Below.refl w3.heap.size w3).alloc (Nat.le_refl _) (.cells #[.int .i64 SV] 3)))
      have XD1 : Aside0 (RowV (w3.alloc (.cells #[.int .i64 SV] 3)) w.heap.size 3 1 (.slice Ad nd cd) nd (iV d)) := ⟨by rw [HND.out]; exact TX.out.rr⟩
      have HBX : Aside0 (w.heap.size ≤ (w3.alloc (.cells #[.int .i64 SV] 3)).heap.size) := ⟨TX.out.bel.size⟩
      refine row_append_step (w := w3.alloc (.cells #[.int .i64 SV] 3)) (.tmp 116) (.tmp 119) 24 rfl 3 Try.t3 (.int .i64 0) 1 8 Try.underlying24 (by kernel_rfl) rfl rfl rfl (by decide) (by decide) w.heap.size (.slice Ad nd cd) nd (iV d) (by rfl) XD1.out ⟨w3.heap.size, 0, none⟩ 1 1 [.int .i64 SV] (by rfl) rfl (new_news w3 _ _) (by simp [Value.oneCell']) (by simp only [maxLen]; omega) (by omega) HBX.out ?_
      intro v1 w6_ hR6 hG6 hO6 hF6
      have X6 := hR6
      rw [HND.out] at X6
      have TN := Aside0.mk (TX.out.delt (x := SV) (by rw [← HND.out]; exact hG6) X6 (by rw [← HND.out]; exact hO6))
      obtain ⟨g6, o6, c6_, rfl, hb6, hn6, hc6, hx6⟩ := hR6.some_ (by omega)
      have u6 := blk_cell (gb_blkR hG6 XD1.out TX.out.k5 (by decide)) 6
      have u6f := blk_frozen (gb_blkR hG6 XD1.out TX.out.k5 (by decide)) 6
      simp only [List.getElem?_toArray, List.getElem?_cons_zero, List.getElem?_cons_succ] at u6
      clear X6 hx6 hR6 hG6 hO6 hF6
      refine hK.out _ _ ?_
      clear hK K
      refine norm_ (a' := ?_) ?_ ?_
      rotate_left
      ·show Act.put _ (some 120) _ = _
       simp only [Act.put, List.setIfInBounds_toArray, List.set_cons_zero, List.set_cons_succ, i64_w, i32_w]
       rfl
      refine pure_ (i := 6) (N := some 121) (v := ?_) (a' := ?_) #[true, true, true, true, true, true, true, false] rfl rfl (by kernel_rfl) (fun _ _ _ h => h) (Or.inl ⟨by rfl, ?_⟩) ?_ ?_
      rotate_left
      ·intro w'
       go_simp
       with_reducible rfl
      rotate_left
      ·simp only [Act.put, List.setIfInBounds_toArray, List.set_cons_zero, List.set_cons_succ, i64_w, i32_w]
       rfl
      refine last_ (i := 7) (N := none) #[true, true, true, true, true, true, true, true] rfl rfl (by kernel_rfl) (by decide) (fun K hK => ?_)
      refine skip_ (w1 := ?_) (by rfl) rfl ?_ ?_
      rotate_left
      ·go_simp
       rfl
      refine hK.out _ _ ?_
      clear hK K
      refine done_ (by kernel_rfl) ?_
      go_wp2_with fail
      refine ⟨⟨i + 1, b + 16, some ⟨g6, o6, none⟩, c6_, d ++ [SV], by simp, by omega, by rw [List.length_append, ← HND.out]; simp; omega, ⟨?_⟩, by omega, by omega, BN⟩, by simp [intOf]; omega⟩
      rw [List.length_append, ← HND.out]
      exact TN.out
    ·have q7 : decide ((i : Int) < (l.length : Int)) = false := decide_eq_false (by omega)
     have hil2 : i = l.length := by omega
     rw [hil2] at BD
     have HDE := Aside0.mk BD.out.done
     clear hil2 BD
     go_wp2_with fail
     refine (rleft_any _ p s (b : Int) HT.out.rd (by omega) (by omega) (by omega)).mono ?_
     rintro e wX ⟨rfl, hd⟩
     replace HT := Aside0.mk (HT.out.step hd.below)
     clear hd
     by_cases z9 : 24 < 8 * s.size - b
     ·have q9 : decide (24 < 8 * (s.size : Int) - (b : Int)) = true := decide_eq_true (by omega)
      have HP := Aside0.mk (tw_pad h1 h2 h3 Hn.out z0 (by rw [HLE.out]; exact hll) HST.out HDE.out (.inl z9))
      have x0 := blk_cell HT.out.k2 0
      have x1 := blk_cell HT.out.k2 1
      have x2 := blk_cell HT.out.k2 2
      have x3 := blk_cell HT.out.k2 3
      have x4 := blk_cell HT.out.k2 4
      have x5 := blk_cell HT.out.k2 5
      have x6 := blk_cell HT.out.k2 6
      simp only [List.getElem?_toArray, List.getElem?_cons_zero, List.getElem?_cons_succ] at x0 x1 x2 x3 x4 x5 x6
      have fx0 := blk_frozen HT.out.k2 0
      have fx1 := blk_frozen HT.out.k2 1
      have fx2 := blk_frozen HT.out.k2 2
      have fx3 := blk_frozen HT.out.k2 3
      have fx4 := blk_frozen HT.out.k2 4
      have fx5 := blk_frozen HT.out.k2 5
      have fx6 := blk_frozen HT.out.k2 6
      go_wp2_with fail
      (try simp only [Exit.inBlock, Exit.then])
      refine bodyPost_ret (rtw_load g2 _ _ _ _ _ _ _ _ _ _ rfl rfl (zset7 HT.out.k2 (.int .u32 0) (.int .u32 0) (.int .i64 0) (.int .i64 0) (.int .i64 0) (.slice none 0 0) (.slice none 0 0))) rfl ?_
      exact TwPost.bad HP.out HT.out.bel hwg2
     have q9 : decide (24 < 8 * (s.size : Int) - (b : Int)) = false := decide_eq_false (by omega)
     have HR0 : Aside0 (rdBits s b (b - b) = 0) := ⟨by rw [Nat.sub_self]; rfl⟩
     have hbb : b ≤ b := Nat.le_refl _
     go_wp2_with fail
     go_loopw [127] (fun _ wr => RL3 w s p g2 g5 b V0 V1 V2 SB V5 (.slice A l.length c) (.slice Ad d.length cd) l d wr) (fun _ wr => 8 * s.size - atP p wr)
     case atStart => exact ⟨b, HT, hbb, hb, hb8, HR0⟩
     case round =>
      clear HT HR0
      obtain ⟨y, HT, hby, hy, hy8, HR0⟩ := hrel
      have HM0 := Aside0.mk (atPR_is HT.out.rd)
      go_wp2_with fail
      refine (rleft_any _ p s (y : Int) HT.out.rd (by omega) (by omega) (by omega)).mono ?_
      rintro e wY ⟨rfl, hd⟩
      replace HT := Aside0.mk (HT.out.step hd.below)
      clear hd
      by_cases zy : 0 < 8 * s.size - y
      ·have q10 : decide (0 < 8 * (s.size : Int) - (y : Int)) = true := decide_eq_true (by omega)
       go_wp2_with fail
       refine (rget_good wY p s (y) 8 HT.out.rd (by omega) (by omega) (by omega)).mono ?_
       rintro e wZ ⟨rfl, hr_, hg_⟩
       replace HT := Aside0.mk (HT.out.get (pos' := y + 8) hg_ hr_)
       clear hg_ hr_
       obtain ⟨V, hV⟩ : ∃ V, V = rdBits s (y) 8 := ⟨_, rfl⟩
       have lV : V < 2 ^ 8 := by rw [hV]; exact rdBits_lt _ _ _
       rw [← hV]
       have HV := Aside0.mk hV
       clear hV
       by_cases zv : V = 0
       ·have q11 : ((V : Int) != 0) = false := by simp [zv]
        have HRN : Aside0 (rdBits s b (y + 8 - b) = 0) := ⟨by
         rw [show y + 8 - b = (y - b) + 8 by omega, rdBits_add, HR0.out, show b + (y - b) = y by omega, ← HV.out, zv]⟩
        clear zv
        go_wp2_with fail
        refine ⟨⟨y + 8, HT, by omega, by omega, by omega, HRN⟩, ?_⟩
        show 8 * s.size - atP p _ < 8 * s.size - atP p _
        rw [HM0.out, atPR_is HT.out.rd]
        omega
       ·have q11 : ((V : Int) != 0) = true := by simp; omega
        have HP := Aside0.mk (tw_pad h1 h2 h3 Hn.out z0 (by rw [HLE.out]; exact hll) HST.out HDE.out (.inr (pad_bad hby (by omega) (by rw [← HV.out]; exact zv))))
        have x0 := blk_cell HT.out.k2 0
        have x1 := blk_cell HT.out.k2 1
        have x2 := blk_cell HT.out.k2 2
        have x3 := blk_cell HT.out.k2 3
        have x4 := blk_cell HT.out.k2 4
        have x5 := blk_cell HT.out.k2 5
        have x6 := blk_cell HT.out.k2 6
        simp only [List.getElem?_toArray, List.getElem?_cons_zero, List.getElem?_cons_succ] at x0 x1 x2 x3 x4 x5 x6
        have fx0 := blk_frozen HT.out.k2 0
        have fx1 := blk_frozen HT.out.k2 1
        have fx2 := blk_frozen HT.out.k2 2
        have fx3 := blk_frozen HT.out.k2 3
        have fx4 := blk_frozen HT.out.k2 4
        have fx5 := blk_frozen HT.out.k2 5
        have fx6 := blk_frozen HT.out.k2 6
        go_wp2_with fail
        (try simp only [Exit.inBlock, Exit.then])
        refine bodyPost_ret (rtw_load g2 _ _ _ _ _ _ _ _ _ _ rfl rfl (zset7 HT.out.k2 (.int .u32 0) (.int .u32 0) (.int .i64 0) (.int .i64 0) (.int .i64 0) (.slice none 0 0) (.slice none 0 0))) rfl ?_
        exact TwPost.bad HP.out HT.out.bel hwg2
      ·have q10 : decide (0 < 8 * (s.size : Int) - (y : Int)) = false := decide_eq_false (by omega)
       have hP := tw_ok h1 h2 h3 Hn.out z0 (by rw [HLE.out]; exact hll) HST.out HDE.out (by
        rintro (h | h)
        ·omega
        ·apply h
         have h5 := HR0.out
         rw [show y - b = 8 * s.size - b by omega] at h5
         exact h5)
       rw [← HV0.out, ← HV1.out, ← HV2.out, ← HV4.out, ← HSB.out, ← HV5.out] at hP
       have HP := Aside0.mk hP
       clear hP
       have x0 := blk_cell HT.out.k2 0
       have x1 := blk_cell HT.out.k2 1
       have x2 := blk_cell HT.out.k2 2
       have x3 := blk_cell HT.out.k2 3
       have x4 := blk_cell HT.out.k2 4
       have x5 := blk_cell HT.out.k2 5
       have x6 := blk_cell HT.out.k2 6
       simp only [List.getElem?_toArray, List.getElem?_cons_zero, List.getElem?_cons_succ] at x0 x1 x2 x3 x4 x5 x6
       have fx0 := blk_frozen HT.out.k2 0
       have fx1 := blk_frozen HT.out.k2 1
       have fx2 := blk_frozen HT.out.k2 2
       have fx3 := blk_frozen HT.out.k2 3
       have fx4 := blk_frozen HT.out.k2 4
       have fx5 := blk_frozen HT.out.k2 5
       have fx6 := blk_frozen HT.out.k2 6
       have c0 := blk_cell HT.out.k5 0
       have c1 := blk_cell HT.out.k5 1
       have c2 := blk_cell HT.out.k5 2
       have c3 := blk_cell HT.out.k5 3
       have c4 := blk_cell HT.out.k5 4
       have c5 := blk_cell HT.out.k5 5
       have c6 := blk_cell HT.out.k5 6
       simp only [List.getElem?_toArray, List.getElem?_cons_zero, List.getElem?_cons_succ] at c0 c1 c2 c3 c4 c5 c6
       go_wp2_with fail
       (try simp only [Exit.inBlock, Exit.then])
       refine bodyPost_ret (rtw_load g2 _ _ _ _ _ _ _ _ _ _ rfl rfl (zset7 HT.out.k2 (.int .u32 (V0 : Int)) (.int .u32 (V1 : Int)) (.int .i64 (V2 : Int)) (.int .i64 SB) (.int .i64 (V5 : Int)) (.slice A l.length c) (.slice Ad d.length cd))) rfl ?_
       have n1 := HT.out.rl.ne HT.out.k2 (by decide)
       have n2 := HT.out.rr.ne HT.out.k2 (by decide)
       refine ⟨.slice A l.length c, .slice Ad d.length cd, by rw [HP.out]; rfl, ?_, ?_, ((((((HT.out.bel.setCell (p := ⟨g2, 0, none⟩) hwg2 _).setCell (p := ⟨g2, 1, none⟩) hwg2 _).setCell (p := ⟨g2, 2, none⟩) hwg2 _).setCell (p := ⟨g2, 3, none⟩) hwg2 _).setCell (p := ⟨g2, 4, none⟩) hwg2 _).setCell (p := ⟨g2, 5, none⟩) hwg2 _).setCell (p := ⟨g2, 6, none⟩) hwg2 _⟩
       ·rw [HP.out]
        exact row_set7 HT.out.rl n1 _ _ _ _ _ _ _
       ·rw [HP.out]
        exact row_set7 HT.out.rr n2 _ _ _ _ _ _ _
theorem rtwcc_any (s : ByteArray) (w : World) (hs : s.size ≤ 1000000) : Calls Try.prog 24 #[.string s] w (TwPost s w) := by
 by_cases h : 65536 < s.size ∨ s.size % 4 ≠ 0 ∨ s.size < 16
 ·exact rtwcc_short s w hs h
 ·exact rtwcc_long s w (by omega) (by omega) (by omega)
end Go.Proofs.Ytgakmnholegbgaa.B
end
