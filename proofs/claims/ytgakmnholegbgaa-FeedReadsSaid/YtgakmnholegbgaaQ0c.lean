/- What the law leans on, part 3 of 6: plain laws and walks of this session, and words that a tool of the kit printed for it; what nothing leans on is left out. -/
import Derived.Test.YtgakmnholegbgaaRows
import Derived.Test.YtgakmnholegbgaaProg
import Derived.Below
import Derived.Deep.Draws
import Derived.Deep.AppendLies
import Derived.Maps.AppendAt
import Derived.OwnWalk
import Derived.Laws.BytesArg
import Derived.Laws.MakeOwn
import Derived.Laws.OwnMore
import Derived.Deep.OwnRows
import Derived.Tactics
import Derived.Lib.ConvBytes
import Derived.Laws.Slices
import Derived.WalkKit
import Derived.KernelRfl
import Derived.RowKit3
import Derived.Deep.LoopGhost
import Derived.Deep.QuietTactic
import Derived.BigQuiet
import Derived.WideLaws
import Derived.Deep.DeepCutAuto
import Derived.Deep.CutBlock
import Derived.Deep.RegionHeld3
import Derived.Laws.Rows
import Derived.Lib.AppendStr
import Derived.ArgAppend
import Derived.Laws.IdiomCopy
import Derived.OrdersHeld
import Derived.Laws.BitsLemmas
import Derived.RowKit
import Derived.Laws.StructEq
import Derived.BigRegion
import Derived.WalkMore
import Derived.ScopeJumps
import Derived.Outline
import Derived.Laws.Externs
import Derived.Lib.BitFns
import Derived.Deep.Light
import Derived.Lib.Mul64
import Derived.Lib.Strings
import Derived.Lib.Slices
import Derived.Lib.Small
import Derived.Lib.Walk
import Derived.Laws.Bits64b
import Derived.Lib.UnsafeStr
import Derived.Deep.RegionLaw
import Derived.Deep.RegionWith
import Derived.StillTailTactics
import Derived.Defers
import Derived.Recover
import Derived.Laws.Pointers
import Derived.WalkLawsBesides
import Derived.Laws.DeepStrings4
import Derived.Lib.SmallJoins
import Derived.Deep.Slices
import Derived.Deep.Fields
import Derived.ChangeSame
import Derived.ProofKit
import Derived.OpenShut
import Derived.ShutString
import Derived.ChangeOld
import Derived.SizedLaws
import Derived.Test.YtgakmnholegbgaaQ0b
section
namespace Go.Proofs.Ytgakmnholegbgaa.B
open Go.RowKit Go.Proofs.YtgakmnholegbgaaW.PrintWords Go.Proofs.YtgakmnholegbgaaW.PrintLast Go.Proofs.YtgakmnholegbgaaW.PrintMore
set_option linter.unusedVariables false
set_option linter.unusedSimpArgs false
def FRel (w : World) (p b g4 : Nat) (S st now : Int) (vA : Value) (BA : Option Addr) (bc : Nat) (L : List (B3 × Value)) (R : List R5) (v19 : Value) (wr : World) : Prop := ∃ (j : Nat) (vR : Value), v19 = .int .i64 j ∧ j ≤ L.length ∧ Aside0 (wr.heap[p]? = some (.cells #[vR, vA] 26 (0, 0))) ∧ Aside0 (wr.heap[g4]? = some (.cells #[.int .u32 S, .slice BA L.length bc, .int .u32 st] 70 (0, 0))) ∧
 Aside0 (RowV wr b 58 5 vR (R ++ repsB now ((L.map (·.1)).take j)).length (repV (R ++ repsB now ((L.map (·.1)).take j)))) ∧ Aside0 (BlocksV wr b (.slice BA L.length bc) L) ∧ Aside0 (Below b w wr) ∧ Aside0 (Fr p w wr)
def FRel2 (w : World) (p b g4 g8 : Nat) (S st ss F : Int) (vA : Value) (BA : Option Addr) (bc : Nat) (L : List (B3 × Value)) (MA : Option Addr) (mc : Nat) (ms : List M3) (now : Int) (R : List R5) (v26 : Value) (wr : World) : Prop := ∃ (k : Nat) (vR : Value), v26 = .int .i64 k ∧ k ≤ ms.length ∧ Aside0 (wr.heap[p]? = some (.cells #[vR, vA] 26 (0, 0))) ∧ Aside0 (wr.heap[g4]? = some (.cells #[.int .u32 S, .slice BA L.length bc, .int .u32 st] 70 (0, 0))) ∧
 Aside0 (wr.heap[g8]? = some (.cells #[.int .u32 ss, .int .i64 F, .slice MA ms.length mc] 49 (0, 0))) ∧ Aside0 (RowV wr b 58 5 vR (R ++ repsM now F ms k).length (repV (R ++ repsM now F ms k))) ∧ Aside0 (BlocksV wr b (.slice BA L.length bc) L) ∧ Aside0 (RowV wr b 45 3 (.slice MA ms.length mc) ms.length (metV ms)) ∧ Aside0 (Below b w wr) ∧ Aside0 (Fr p w wr)
def FS (w : World) (p b g4 g8 : Nat) (S st ss F : Int) (vA vR : Value) (BA : Option Addr) (bc : Nat) (L : List (B3 × Value)) (MA : Option Addr) (mc : Nat) (ms : List M3) (X : List R5) (wr : World) : Prop := wr.heap[p]? = some (.cells #[vR, vA] 26 (0, 0)) ∧ wr.heap[g4]? = some (.cells #[.int .u32 S, .slice BA L.length bc, .int .u32 st] 70 (0, 0)) ∧
 wr.heap[g8]? = some (.cells #[.int .u32 ss, .int .i64 F, .slice MA ms.length mc] 49 (0, 0)) ∧ RowV wr b 58 5 vR X.length (repV X) ∧ BlocksV wr b (.slice BA L.length bc) L ∧ RowV wr b 45 3 (.slice MA ms.length mc) ms.length (metV ms) ∧ Below b w wr ∧ Fr p w wr
theorem Fr.blocks {p b : Nat} {w w' : World} {v : Value} {L : List (B3 × Value)} {cs : Array Value} {fr : Nat × Nat} (h : Fr p w w') (hp : w.heap[p]? = some (.cells cs 26 fr)) (hL : BlocksV w b v L) : BlocksV w' b v L := hL.keep (fun k t hs ht => h.heap k t hs (by rcases ht with h | h <;> rw [h] <;> decide) (fun e => by
 subst e
 rw [shape_blk hp] at hs
 injection hs with hs
 subst hs
 rcases ht with h | h
 ·exact absurd h (by decide)
 ·exact absurd h (by decide)))
theorem FS.step {w wr w1 : World} {p b g4 g8 : Nat} {S st ss F : Int} {vA vR : Value} {BA : Option Addr} {bc : Nat} {L : List (B3 × Value)} {MA : Option Addr} {mc : Nat} {ms : List M3} {X : List R5} (h : FS w p b g4 g8 S st ss F vA vR BA bc L MA mc ms X wr) (hbp : b ≤ p) (hb : Below wr.heap.size wr w1) : FS w p b g4 g8 S st ss F vA vR BA bc L MA mc ms X w1 := by
 obtain ⟨h0, h1, h2, h3, h4, h5, h6, h7⟩ := h
 exact ⟨(hb.block p (blk_lt h0)).trans h0, (hb.block g4 (blk_lt h1)).trans h1, (hb.block g8 (blk_lt h2)).trans h2, h3.below hb, h4.below hb, h5.below hb, h6.trans (hb.mono (Nat.le_trans hbp (Nat.le_of_lt (blk_lt h0)))), h7.trans (Fr.of_below hb)⟩
theorem FS.push {w w1 w6 : World} {p b g4 g8 : Nat} {S st ss F : Int} {vA vR v1 : Value} {BA : Option Addr} {bc : Nat} {L : List (B3 × Value)} {MA : Option Addr} {mc : Nat} {ms : List M3} {X : List R5} {x : R5} (h : FS w p b g4 g8 S st ss F vA vR BA bc L MA mc ms X w1) (hbp : b ≤ p) (n4 : g4 ≠ p) (n8 : g8 ≠ p) (hG : w1.grownBy w6 vR.ownBlock) (hR : RowV w6 b 58 5 v1 (X.length + 1) (repV X ++ repC x)) : FS w p b g4 g8 S st ss F vA v1 BA bc L MA mc ms (X ++ [x]) (w6.setCell ⟨p, 0, none⟩ v1) := by
 obtain ⟨h0, h1, h2, h3, h4, h5, h6, h7⟩ := h
 have k0 := gb_blkR hG h3 h0 (by decide)
 have k1 := gb_blkR hG h3 h1 (by decide)
 have k2 := gb_blkR hG h3 h2 (by decide)
 have hF : Fr p w1 w6 := Fr.grown h3 hG
 have hb1 : b ≤ w1.heap.size := Nat.le_trans hbp (Nat.le_of_lt (blk_lt h0))
 have e_ := blk_set k0 0 v1
 simp only [List.setIfInBounds_toArray, List.set_cons_zero, List.set_cons_succ] at e_
 have hM : RowV w6 b 45 3 (.slice MA ms.length mc) ms.length (metV ms) := hF.row h5 (by decide) (h5.ne h0 (by decide))
 refine ⟨e_, (Below.heap_setCell w6 (⟨p, 0, none⟩ : Addr) _ g4 n4).trans k1, (Below.heap_setCell w6 (⟨p, 0, none⟩ : Addr) _ g8 n8).trans k2, ?_, (hF.blocks h0 h4).setCell (p := ⟨p, 0, none⟩) _ k0 (by decide) (by decide), hM.setCell (p := ⟨p, 0, none⟩) _ (h5.ne h0 (by decide)), (below_base h6 hG (fun k hk => (h3.lt hk).2.1) hb1).setCell (p := ⟨p, 0, none⟩) hbp _, (h7.trans hF).trans (Fr.set w6 0 _)⟩
 rw [repV_snoc, List.length_append]
 exact hR.setCell (p := ⟨p, 0, none⟩) _ (hR.ne k0 (by decide))
set_option maxHeartbeats 16000000 in
set_option maxRecDepth 100000 in
theorem first_any (w : World) (p b : Nat) (vR vA vB : Value) (R : List R5) (S st near : Int) (L : List (B3 × Value)) (hp : w.heap[p]? = some (.cells #[vR, vA] 26 (0, 0))) (hbp : b ≤ p) (hR : RowV w b 58 5 vR R.length (repV R)) (hL : BlocksV w b vB L)
  (hst : U32 st) (hn : I64 near) (hl : L.length ≤ 16) (hx : ∀ x ∈ L, (0 ≤ x.1.2.1 ∧ x.1.2.1 ≤ 65535) ∧ x.1.2.2.length ≤ 4096 ∧ ∀ m ∈ x.1.2.2, 0 ≤ m.2.2 ∧ m.2.2 ≤ 8191) (hRl : R.length ≤ 10000000000) :
  Calls Try.prog 19 #[.pointer (some ⟨p, 0, none⟩), .agg #[.int .u32 S, vB, .int .u32 st], .int .i64 near] w (SecPost w p b vA (R ++ repsB (fromP st near) (L.map (·.1)))) := by
 obtain ⟨BA, bc, rfl, -, -⟩ := hL.1.form
 have hpl := blk_lt hp
 obtain ⟨now, hnow⟩ : ∃ a, a = fromP st near := ⟨_, rfl⟩
 have CN := Aside0.mk (fun w => from_any st near hst hn w)
 rw [← hnow] at CN ⊢
 have HNOW := Aside0.mk hnow
 clear hnow
 have HX := Aside0.mk hx
 have HP0 := Aside0.mk hp
 have HR0 := Aside0.mk hR
 have HL0 := Aside0.mk hL
 clear hp hR hL hx
 go_enter Try.func19, Try.ntmps19
 have K4 := Aside0.mk (blk_new w (.cells #[.int .u32 S, .slice BA L.length bc, .int .u32 st] 70))
 have K0 := Aside0.mk (gb_blk (World.grownBy_alloc w (.cells #[.int .u32 S, .slice BA L.length bc, .int .u32 st] 70) none) HP0.out (fun k hk => by cases hk))
 have HR := Aside0.mk (HR0.out.alloc (.cells #[.int .u32 S, .slice BA L.length bc, .int .u32 st] 70))
 have HL := Aside0.mk (HL0.out.alloc (.cells #[.int .u32 S, .slice BA L.length bc, .int .u32 st] 70))
 have HB := Aside0.mk ((Below.refl b w).alloc (Nat.le_trans hbp (Nat.le_of_lt hpl)) (.cells #[.int .u32 S, .slice BA L.length bc, .int .u32 st] 70))
 have HFr := Aside0.mk (Fr.alloc p w (.cells #[.int .u32 S, .slice BA L.length bc, .int .u32 st] 70))
 have n4 : w.heap.size ≠ p := by omega
 have c2 := blk_cell K4.out 2
 simp only [List.getElem?_toArray, List.getElem?_cons_zero, List.getElem?_cons_succ] at c2
 go_wp2_with fail
 refine (CN.out _).mono ?_
 rintro e w2 ⟨rfl, hb2⟩
 obtain ⟨g4, hg4⟩ : ∃ g, g = w.heap.size := ⟨_, rfl⟩
 replace K0 := Aside0.mk ((hb2.block p (blk_lt K0.out)).trans K0.out)
 replace HR := Aside0.mk (HR.out.below hb2)
 replace HL := Aside0.mk (HL.out.below hb2)
 replace HFr := Aside0.mk (HFr.out.trans (Fr.of_below hb2))
 replace HB := Aside0.mk (HB.out.trans (hb2.mono (Nat.le_trans hbp (Nat.le_of_lt (Nat.lt_of_lt_of_le hpl HB.out.size)))))
 replace K4 := Aside0.mk ((hb2.block w.heap.size (blk_lt K4.out)).trans K4.out)
 rw [← hg4] at K4 n4 ⊢
 clear hb2 hg4 CN HP0 HR0 HL0 c2
 have c1 := blk_cell K4.out 1
 simp only [List.getElem?_toArray, List.getElem?_cons_zero, List.getElem?_cons_succ] at c1
 go_wp2_with fail
 go_loopw [8, 9, 10, 11, 19] (fun _ _ _ _ v19 wr => FRel w p b g4 S st now vA BA bc L R v19 wr) (fun _ _ _ _ v _ => L.length - (intOf v).toNat)
 case atStart => exact ⟨0, vR, rfl, by omega, K0, K4, by simpa [repsB] using HR, HL, HB, HFr⟩
 case round =>
  clear K0 K4 HR HL HB HFr c1
  obtain ⟨j, vr, rfl, hj, K0, K4, HR, HL, HB, HFr⟩ := hrel
  by_cases hlt : j < L.length
  ·have q4 : decide ((j : Int) < (L.length : Int)) = true := decide_eq_true (by omega)
   obtain ⟨⟨⟨ss, F, ms⟩, vm⟩, hx⟩ : ∃ x, L[j]? = some x := ⟨L[j]'hlt, List.getElem?_eq_getElem hlt⟩
   obtain ⟨ga, oa, ca, e_, _, _, _, hxa⟩ := HL.out.1.some_ (by omega)
   injection e_ with e_ _ e2_
   subst e_
   subst e2_
   have hmem := List.mem_of_getElem? hx
   obtain ⟨⟨hF0, hF1⟩, hml, hag⟩ := HX.out _ hmem
   have HM := Aside0.mk (HL.out.2 _ hmem)
   dsimp only at hF0 hF1 hml hag HM
   obtain ⟨MA, mc, rfl, -, -⟩ := HM.out.form
   obtain ⟨u0, u1, u2⟩ := blkV_get hx
   replace u0 := hxa _ _ u0
   replace u1 := hxa _ _ u1
   replace u2 := hxa _ _ u2
   rw [← Nat.add_assoc] at u1 u2
   have i0 : (0 : Int) ≤ (j : Int) := by omega
   have i1 : (j : Int) < (L.length : Int) := by omega
   have HXJ := Aside0.mk hx
   have HAG := Aside0.mk hag
   clear hx hxa hag hmem
   go_wp2_with fail
   have O8 := Aside0.mk (blk_new wr (.cells #[.int .u32 ss, .int .i64 F, .slice MA ms.length mc] 49))
   replace K0 := Aside0.mk (gb_blk (World.grownBy_alloc wr (.cells #[.int .u32 ss, .int .i64 F, .slice MA ms.length mc] 49) none) K0.out (fun k hk => by cases hk))
   replace K4 := Aside0.mk (gb_blk (World.grownBy_alloc wr (.cells #[.int .u32 ss, .int .i64 F, .slice MA ms.length mc] 49) none) K4.out (fun k hk => by cases hk))
   replace HR := Aside0.mk (HR.out.alloc (.cells #[.int .u32 ss, .int .i64 F, .slice MA ms.length mc] 49))
   replace HL := Aside0.mk (HL.out.alloc (.cells #[.int .u32 ss, .int .i64 F, .slice MA ms.length mc] 49))
   replace HM := Aside0.mk (HM.out.alloc (.cells #[.int .u32 ss, .int .i64 F, .slice MA ms.length mc] 49))
   have hbr : b ≤ wr.heap.size := Nat.le_trans hbp (Nat.le_trans (Nat.le_of_lt hpl) HB.out.size)
   replace HFr := Aside0.mk (HFr.out.trans (Fr.alloc p wr (.cells #[.int .u32 ss, .int .i64 F, .slice MA ms.length mc] 49)))
   have h8 : wr.heap.size ≠ p := by have := HB.out.size; omega
   replace HB := Aside0.mk (HB.out.alloc hbr (.cells #[.int .u32 ss, .int .i64 F, .slice MA ms.length mc] 49))
   obtain ⟨g8, hg8⟩ : ∃ g, g = wr.heap.size := ⟨_, rfl⟩
   rw [← hg8] at O8 h8 ⊢
   clear hg8 hbr u0 u1 u2
   generalize wr.alloc (.cells #[.int .u32 ss, .int .i64 F, .slice MA ms.length mc] 49) = w8 at *
   obtain ⟨R', hR'⟩ : ∃ R', R' = R ++ repsB now ((L.map (·.1)).take j) := ⟨_, rfl⟩
   rw [← hR'] at HR
   have HRR := Aside0.mk hR'
   clear hR'
   go_loopw [9, 10, 11, 26] (fun _ _ _ v26 wr => FRel2 w p b g4 g8 S st ss F vA (some ⟨ga, oa, none⟩) bc L MA mc ms now R' v26 wr) (fun _ _ _ v _ => ms.length - (intOf v).toNat)
   case atStart => exact ⟨0, vr, rfl, by omega, K0, K4, O8, by simpa [repsM] using HR, HL, HM, HB, HFr⟩
   case round =>
    clear K0 K4 O8 HR HL HM HB HFr
    obtain ⟨k, vr2, rfl, hk, K0, K4, K8, HR, HL, HM, HB, HFr⟩ := hrel
    by_cases hkt : k < ms.length
    ·have q5 : decide ((k : Int) < (ms.length : Int)) = true := decide_eq_true (by omega)
     obtain ⟨⟨got, ecn, ago⟩, hm⟩ : ∃ m, ms[k]? = some m := ⟨ms[k]'hkt, List.getElem?_eq_getElem hkt⟩
     obtain ⟨ma, mo, mc', e_, _, _, _, hxm⟩ := HM.out.some_ (by omega)
     injection e_ with e_ _ e2_
     subst e_
     subst e2_
     obtain ⟨v0, v1, v2⟩ := metV_get hm
     replace v0 := hxm _ _ v0
     replace v1 := hxm _ _ v1
     replace v2 := hxm _ _ v2
     rw [← Nat.add_assoc] at v1 v2
     have k0 : (0 : Int) ≤ (k : Int) := by omega
     have k1 : (k : Int) < (ms.length : Int) := by omega
     have HMK := Aside0.mk hm
     clear hm hxm
     go_upto_region 8 with fail
     have X9 := Aside0.mk (blk_new wr (.cells #[.bool got, .int .i64 ecn, .int .i64 ago] 45))
     replace K0 := Aside0.mk (gb_blk (World.grownBy_alloc wr (.cells #[.bool got, .int .i64 ecn, .int .i64 ago] 45) none) K0.out (fun k hk => by cases hk))
     replace K4 := Aside0.mk (gb_blk (World.grownBy_alloc wr (.cells #[.bool got, .int .i64 ecn, .int .i64 ago] 45) none) K4.out (fun k hk => by cases hk))
     replace K8 := Aside0.mk (gb_blk (World.grownBy_alloc wr (.cells #[.bool got, .int .i64 ecn, .int .i64 ago] 45) none) K8.out (fun k hk => by cases hk))
     replace HR := Aside0.mk (HR.out.alloc (.cells #[.bool got, .int .i64 ecn, .int .i64 ago] 45))
     replace HL := Aside0.mk (HL.out.alloc (.cells #[.bool got, .int .i64 ecn, .int .i64 ago] 45))
     replace HM := Aside0.mk (HM.out.alloc (.cells #[.bool got, .int .i64 ecn, .int .i64 ago] 45))
     have hbr : b ≤ wr.heap.size := Nat.le_trans hbp (Nat.le_trans (Nat.le_of_lt hpl) HB.out.size)
     replace HFr := Aside0.mk (HFr.out.trans (Fr.alloc p wr (.cells #[.bool got, .int .i64 ecn, .int .i64 ago] 45)))
     replace HB := Aside0.mk (HB.out.alloc hbr (.cells #[.bool got, .int .i64 ecn, .int .i64 ago] 45))
     generalize wr.alloc (.cells #[.bool got, .int .i64 ecn, .int .i64 ago] 45) = w9 at *
     have c8 := blk_cell K8.out 1
     have x0 := blk_cell X9.out 0
     simp only [List.getElem?_toArray, List.getElem?_cons_zero, List.getElem?_cons_succ] at c8 x0
     have z8 : ∀ o, (w9.alloc o).cell? ⟨g8, 1, none⟩ = some (.int .i64 F) := fun o => (World.cell?_alloc_past _ _ _ (blk_lt K8.out)).trans c8
     have z0 : ∀ o, (w9.alloc o).cell? ⟨wr.heap.size, 0, none⟩ = some (.bool got) := fun o => (World.cell?_alloc_past _ _ _ (blk_lt X9.out)).trans x0
     have ew : wrap64 (F + (k : Int)) = F + (k : Int) := by unfold wrap64; omega
     have CC : Aside0 (∀ w : World, Calls Try.prog 43 #[.int .i64 (wrap64 (F + (k : Int))), .int .i64 16] w fun e w' => e = .returned (.int .i64 ((F + (k : Int)) % 65536)) ∧ w' = w) := ⟨fun w => by rw [ew]; exact cut16 (F + (k : Int)) w (by unfold I64; omega)⟩
     clear ew
     clear v0 v1 v2
     refine start_ (n := 10) (S := fun w' => w'.cell? ⟨g8, 1, none⟩ = some (.int .i64 F) ∧ w'.cell? ⟨wr.heap.size, 0, none⟩ = some (.bool got)) (ds := [9]) #[false, false, false, false, false, false, false, false, false, false] (by kernel_rfl) rfl rfl ⟨c8, x0⟩ (fun hHeld => ?_)
     refine pure_ (i := 0) (N := some 31) (v := ?_) (a' := ?_) #[true, false, false, false, false, false, false, false, false, false] rfl rfl (by kernel_rfl) (fun _ _ _ h => h) (Or.inl ⟨by rfl, ?_⟩) ?_ ?_
     rotate_left
     ·intro w'
      go_simp
      with_reducible rfl
     rotate_left
     ·simp only [Act.put, List.setIfInBounds_toArray, List.set_cons_zero, List.set_cons_succ, i64_w, i32_w]
      rfl
     refine pure_ (i := 2) (N := some 33) (v := ?_) (a' := ?_) #[true, false, true, false, false, false, false, false, false, false] rfl rfl (by kernel_rfl) (fun _ _ _ h => h) (Or.inl ⟨by rfl, ?_⟩) ?_ ?_
     rotate_left
     ·intro w'
      go_simp
      with_reducible rfl
     rotate_left
     ·simp only [Act.put, List.setIfInBounds_toArray, List.set_cons_zero, List.set_cons_succ, i64_w, i32_w]
      rfl
     refine pure_ (i := 5) (N := some 36) (v := ?_) (a' := ?_) #[true, false, true, false, false, true, false, false, false, false] rfl rfl (by kernel_rfl) (fun _ _ _ h => h) (Or.inl ⟨by rfl, ?_⟩) ?_ ?_
     rotate_left
     ·intro w'
      go_simp
      with_reducible rfl
     rotate_left
     ·simp only [Act.put, List.setIfInBounds_toArray, List.set_cons_zero, List.set_cons_succ, i64_w, i32_w]
      rfl
     refine take_ (i := 1) (N := some 32) (v := ?_) (a' := ?_) #[true, true, true, false, false, true, false, false, false, false] rfl rfl (by kernel_rfl) (fun _ _ _ h => h) (Or.inl ⟨by rfl, ?_⟩) hHeld ?_ ?_
     rotate_left
     ·rintro w' ⟨s0, s1⟩
      go_simp
      with_reducible rfl
     rotate_left
     ·simp only [Act.put, List.setIfInBounds_toArray, List.set_cons_zero, List.set_cons_succ, i64_w, i32_w]
      rfl
     refine pure_ (i := 3) (N := some 34) (v := ?_) (a' := ?_) #[true, true, true, true, false, true, false, false, false, false] rfl rfl (by kernel_rfl) (fun _ _ _ h => h) (Or.inl ⟨by rfl, ?_⟩) ?_ ?_
     rotate_left
     ·intro w'
      go_simp
      with_reducible rfl
     rotate_left
     ·simp only [Act.put, List.setIfInBounds_toArray, List.set_cons_zero, List.set_cons_succ, i64_w, i32_w]
      rfl
     refine take_ (i := 6) (N := some 37) (v := ?_) (a' := ?_) #[true, true, true, true, false, true, true, false, false, false] rfl rfl (by kernel_rfl) (fun _ _ _ h => h) (Or.inl ⟨by rfl, ?_⟩) hHeld ?_ ?_
     rotate_left
     ·rintro w' ⟨s0, s1⟩
      go_simp
      with_reducible rfl
     rotate_left
     ·simp only [Act.put, List.setIfInBounds_toArray, List.set_cons_zero, List.set_cons_succ, i64_w, i32_w]
      rfl
     refine join_ (σ := Unit) 1 #[true, true, true, true, true, true, true, true, true, false] (fun _ => [(35, (.int .i64 ((F + (k : Int)) % 65536))), (11, .pointer (some ⟨w9.heap.size, 0, none⟩)), (38, .agg #[.int .i64 ((F + (k : Int)) % 65536), .bool got, .int .i64 0, .bool false, .bool false])]) (fun _ w' => w' = w9.drew.alloc (.cells #[.int .i64 0, .bool false, .int .i64 0, .bool false, .bool false] 58)) ?_ ?_
     rotate_left
     ·intro hCont
      refine two_ (i := 4) (j := 8) (Ni := some 35) (Nj := some 11) #[true, true, true, true, true, true, true, false, false, false] #[true, true, true, true, false, true, true, false, true, false] rfl rfl rfl rfl (by kernel_rfl) (by decide) (by decide) (fun K hK => ?_) (fun K hK => ?_)
      ·skip
       refine goes_ Try.func43 (by kernel_rfl) rfl #[.int .i64 (wrap64 (F + (k : Int))), .int .i64 16] (by rfl) rfl rfl (by simp only [List.map_toArray, List.map_cons, List.map_nil]; rfl) ?_
       with_reducible refine (CC.out _).mono ?_
       rintro e w3 ⟨rfl, hw3⟩
       refine ⟨_, rfl, ?_⟩
       subst hw3
       refine hK.out _ _ ⟨c8, x0⟩ (fun hHeld => ?_)
       clear hK K
       refine norm_ (a' := ?_) ?_ ?_
       rotate_left
       ·show Act.put _ (some 35) _ = _
        simp only [Act.put, List.setIfInBounds_toArray, List.set_cons_zero, List.set_cons_succ, i64_w, i32_w]
        rfl
       refine pure_ (i := 7) (N := some 38) (v := ?_) (a' := ?_) #[true, true, true, true, true, true, true, true, false, false] rfl rfl (by kernel_rfl) (fun _ _ _ h => h) (Or.inl ⟨by rfl, ?_⟩) ?_ ?_
       rotate_left
       ·intro w'
        go_simp
        with_reducible rfl
       rotate_left
       ·simp only [Act.put, List.setIfInBounds_toArray, List.set_cons_zero, List.set_cons_succ, i64_w, i32_w]
        rfl
       refine one_ (i := 8) (N := some 11) #[true, true, true, true, true, true, true, true, true, false] rfl rfl (by kernel_rfl) (by decide) (fun K hK => ?_)
       refine value_ (w1 := ?_) (v := ?_) (by rfl) rfl ?_ ?_
       rotate_left 2
       ·go_simp
        constructor
        ·rfl
        ·rfl
       refine hK.out _ _ ⟨(z8 _), (z0 _)⟩ (fun hHeld => ?_)
       clear hK K
       refine norm_ (a' := ?_) ?_ ?_
       rotate_left
       ·show Act.put _ (some 11) _ = _
        simp only [Act.put, List.setIfInBounds_toArray, List.set_cons_zero, List.set_cons_succ, i64_w, i32_w]
        rfl
       exact norm_ (by simp only [putAll, Act.put, List.setIfInBounds_toArray, List.set_cons_zero, List.set_cons_succ]) (hCont () _ rfl)
      ·skip
       refine value_ (w1 := ?_) (v := ?_) (by rfl) rfl ?_ ?_
       rotate_left 2
       ·go_simp
        constructor
        ·rfl
        ·rfl
       refine hK.out _ _ ⟨(z8 _), (z0 _)⟩ (fun hHeld => ?_)
       clear hK K
       refine norm_ (a' := ?_) ?_ ?_
       rotate_left
       ·show Act.put _ (some 11) _ = _
        simp only [Act.put, List.setIfInBounds_toArray, List.set_cons_zero, List.set_cons_succ, i64_w, i32_w]
        rfl
       refine one_ (i := 4) (N := some 35) #[true, true, true, true, true, true, true, false, true, false] rfl rfl (by kernel_rfl) (by decide) (fun K hK => ?_)
       refine goes_ Try.func43 (by kernel_rfl) rfl #[.int .i64 (wrap64 (F + (k : Int))), .int .i64 16] (by rfl) rfl rfl (by simp only [List.map_toArray, List.map_cons, List.map_nil]; rfl) ?_
       with_reducible refine (CC.out _).mono ?_
       rintro e w3 ⟨rfl, hw3⟩
       refine ⟨_, rfl, ?_⟩
       subst hw3
       refine hK.out _ _ ⟨(z8 _), (z0 _)⟩ (fun hHeld => ?_)
       clear hK K
       refine norm_ (a' := ?_) ?_ ?_
       rotate_left
       ·show Act.put _ (some 35) _ = _
        simp only [Act.put, List.setIfInBounds_toArray, List.set_cons_zero, List.set_cons_succ, i64_w, i32_w]
        rfl
       refine pure_ (i := 7) (N := some 38) (v := ?_) (a' := ?_) #[true, true, true, true, true, true, true, true, true, false] rfl rfl (by kernel_rfl) (fun _ _ _ h => h) (Or.inl ⟨by rfl, ?_⟩) ?_ ?_
       rotate_left
       ·intro w'
        go_simp
        with_reducible rfl
       rotate_left
       ·simp only [Act.put, List.setIfInBounds_toArray, List.set_cons_zero, List.set_cons_succ, i64_w, i32_w]
        rfl
       exact norm_ (by simp only [putAll, Act.put, List.setIfInBounds_toArray, List.set_cons_zero, List.set_cons_succ]) (hCont () _ rfl)
     rintro _ wz hwz
     subst hwz
     have hHeld : _ ∧ _ := ⟨z8 (.cells #[.int .i64 0, .bool false, .int .i64 0, .bool false, .bool false] 58), z0 (.cells #[.int .i64 0, .bool false, .int .i64 0, .bool false, .bool false] 58)⟩
     refine norm_ (a' := ?_) ?_ ?_
     rotate_left
     ·simp only [putAll, Act.put, List.setIfInBounds_toArray, List.set_cons_zero, List.set_cons_succ]
      rfl
     refine last_ (i := 9) (N := none) #[true, true, true, true, true, true, true, true, true, true] rfl rfl (by kernel_rfl) (by decide) (fun K hK => ?_)
     refine skip_ (w1 := ?_) (by rfl) rfl ?_ ?_
     rotate_left
     ·go_simp
      rfl
     refine hK.out _ _ ?_
     clear hK K
     refine done_ (by kernel_rfl) ?_
     have BB : Aside0 (Below w9.heap.size w9 (w9.alloc (.cells #[.int .i64 ((F + (k : Int)) % 65536), .bool got, .int .i64 0, .bool false, .bool false] 58)).drew) := ⟨((Below.refl w9.heap.size w9).alloc (Nat.le_refl _) _).drew⟩
     have XX : Aside0 ((w9.alloc (.cells #[.int .i64 ((F + (k : Int)) % 65536), .bool got, .int .i64 0, .bool false, .bool false] 58)).drew.heap[w9.heap.size]? = some (.cells #[.int .i64 ((F + (k : Int)) % 65536), .bool got, .int .i64 0, .bool false, .bool false] 58 (0, 0))) := ⟨blk_new w9 (.cells #[.int .i64 ((F + (k : Int)) % 65536), .bool got, .int .i64 0, .bool false, .bool false] 58)⟩
     have hXl : (R' ++ repsM now F ms k).length ≤ 10000070000 := by
      rw [List.length_append, repsM_length, HRR.out, List.length_append]
      have h := repsB_le now ((L.map (·.1)).take j) (fun x hx => by
       obtain ⟨y, hy, rfl⟩ := List.mem_map.1 (List.mem_of_mem_take hx)
       exact (HX.out y hy).2.1)
      have h2 := List.length_take_le j (L.map (·.1))
      omega
     obtain ⟨X, hX⟩ : ∃ X, X = R' ++ repsM now F ms k := ⟨_, rfl⟩
     rw [← hX] at HR hXl
     have HXX := Aside0.mk hX
     clear hX
     have HS := Aside0.mk (show FS w p b g4 g8 S st ss F vA vr2 _ bc L _ _ ms X w9 from ⟨K0.out, K4.out, K8.out, HR.out, HL.out, HM.out, HB.out, HFr.out⟩)
     have n8 := h8
     have hA9 : w9.heap.size ≤ w9.heap.size := Nat.le_refl _
     obtain ⟨g9, hg9⟩ : ∃ g, g = wr.heap.size := ⟨_, rfl⟩
     rw [← hg9] at X9 ⊢
     clear K0 K4 K8 HR HL HM HB HFr c8 x0 z8 z0 CC hHeld
     try clear hHeld
     generalize (w9.alloc (.cells #[.int .i64 ((F + (k : Int)) % 65536), .bool got, .int .i64 0, .bool false, .bool false] 58)).drew = wA at *
     obtain ⟨gA, hgA⟩ : ∃ g, g = w9.heap.size := ⟨_, rfl⟩
     rw [← hgA] at XX ⊢
     replace hA9 : w9.heap.size ≤ gA := Nat.le_of_eq hgA.symm
     clear hgA hg9
     have hag9 := HAG.out _ (List.mem_of_getElem? HMK.out)
     dsimp only at hag9
     cases got with
     | false =>
      have X9A := Aside0.mk ((BB.out.block g9 (blk_lt X9.out)).trans X9.out)
      have y0 := blk_cell X9A.out 0
      simp only [List.getElem?_toArray, List.getElem?_cons_zero, List.getElem?_cons_succ] at y0
      go_wp2_with fail
      clear y0
      obtain ⟨wx, rfl⟩ : ∃ wx : World, wx = wA := ⟨_, rfl⟩
      have HSX := Aside0.mk (HS.out.step hbp BB.out)
      have hXE : X ++ [(((F + (k : Int)) % 65536), false, 0, false, false)] = R' ++ repsM now F ms (k + 1) := by rw [repsM_succ HMK.out, ← List.append_assoc, ← HXX.out, rep1_no rfl]
      have HXE := Aside0.mk hXE
      clear hXE
      have kc := blk_cell HSX.out.1 0
      simp only [List.getElem?_toArray, List.getElem?_cons_zero, List.getElem?_cons_succ] at kc
      have x0 := blk_cell XX.out 0
      simp only [List.getElem?_toArray, List.getElem?_cons_zero, List.getElem?_cons_succ] at x0
      have x1 := blk_cell XX.out 1
      simp only [List.getElem?_toArray, List.getElem?_cons_zero, List.getElem?_cons_succ] at x1
      have x2 := blk_cell XX.out 2
      simp only [List.getElem?_toArray, List.getElem?_cons_zero, List.getElem?_cons_succ] at x2
      have x3 := blk_cell XX.out 3
      simp only [List.getElem?_toArray, List.getElem?_cons_zero, List.getElem?_cons_succ] at x3
      have x4 := blk_cell XX.out 4
      simp only [List.getElem?_toArray, List.getElem?_cons_zero, List.getElem?_cons_succ] at x4
      have zp : ∀ o, (wx.alloc o).cell? ⟨p, 0, none⟩ = some vr2 := fun o => (World.cell?_alloc_past _ _ _ (blk_lt HSX.out.1)).trans kc
      have z0 : ∀ o, (wx.alloc o).cell? ⟨gA, 0, none⟩ = some (.int .i64 ((F + (k : Int)) % 65536)) := fun o => (World.cell?_alloc_past _ _ _ (blk_lt XX.out)).trans x0
      have z1 : ∀ o, (wx.alloc o).cell? ⟨gA, 1, none⟩ = some (.bool false) := fun o => (World.cell?_alloc_past _ _ _ (blk_lt XX.out)).trans x1
      have z2 : ∀ o, (wx.alloc o).cell? ⟨gA, 2, none⟩ = some (.int .i64 0) := fun o => (World.cell?_alloc_past _ _ _ (blk_lt XX.out)).trans x2
      have z3 : ∀ o, (wx.alloc o).cell? ⟨gA, 3, none⟩ = some (.bool false) := fun o => (World.cell?_alloc_past _ _ _ (blk_lt XX.out)).trans x3
      have z4 : ∀ o, (wx.alloc o).cell? ⟨gA, 4, none⟩ = some (.bool false) := fun o => (World.cell?_alloc_past _ _ _ (blk_lt XX.out)).trans x4
      refine start_ (n := 11) (S := fun w' => w'.cell? ⟨p, 0, none⟩ = some vr2 ∧ w'.cell? ⟨gA, 0, none⟩ = some (.int .i64 ((F + (k : Int)) % 65536)) ∧ w'.cell? ⟨gA, 1, none⟩ = some (.bool false) ∧ w'.cell? ⟨gA, 2, none⟩ = some (.int .i64 0) ∧ w'.cell? ⟨gA, 3, none⟩ = some (.bool false) ∧ w'.cell? ⟨gA, 4, none⟩ = some (.bool false)) (ds := [7, 10]) #[false, false, false, false, false, false, false, false, false, false, false] (by kernel_rfl) rfl rfl ⟨kc, x0, x1, x2, x3, x4⟩ (fun hHeld => ?_)
      refine pure_ (i := 0) (N := some 58) (v := ?_) (a' := ?_) #[true, false, false, false, false, false, false, false, false, false, false] rfl rfl (by kernel_rfl) (fun _ _ _ h => h) (Or.inl ⟨by rfl, ?_⟩) ?_ ?_
      rotate_left
      ·intro w'
       go_simp
       with_reducible rfl
      rotate_left
      ·simp only [Act.put, List.setIfInBounds_toArray, List.set_cons_zero, List.set_cons_succ, i64_w, i32_w]
       rfl
      refine pure_ (i := 1) (N := some 59) (v := ?_) (a' := ?_) #[true, true, false, false, false, false, false, false, false, false, false] rfl rfl (by kernel_rfl) (fun _ _ _ h => h) (Or.inl ⟨by rfl, ?_⟩) ?_ ?_
      rotate_left
      ·intro w'
       go_simp
       with_reducible rfl
      rotate_left
      ·simp only [Act.put, List.setIfInBounds_toArray, List.set_cons_zero, List.set_cons_succ, i64_w, i32_w]
       rfl
      refine pure_ (i := 2) (N := some 60) (v := ?_) (a' := ?_) #[true, true, true, false, false, false, false, false, false, false, false] rfl rfl (by kernel_rfl) (fun _ _ _ h => h) (Or.inl ⟨by rfl, ?_⟩) ?_ ?_
      rotate_left
      ·intro w'
       go_simp
       with_reducible rfl
      rotate_left
      ·simp only [Act.put, List.setIfInBounds_toArray, List.set_cons_zero, List.set_cons_succ, i64_w, i32_w]
       rfl
      refine pure_ (i := 3) (N := some 61) (v := ?_) (a' := ?_) #[true, true, true, true, false, false, false, false, false, false, false] rfl rfl (by kernel_rfl) (fun _ _ _ h => h) (Or.inl ⟨by rfl, ?_⟩) ?_ ?_
      rotate_left
      ·intro w'
       go_simp
       with_reducible rfl
      rotate_left
      ·simp only [Act.put, List.setIfInBounds_toArray, List.set_cons_zero, List.set_cons_succ, i64_w, i32_w]
       rfl
      refine take_ (i := 4) (N := some 62) (v := ?_) (a' := ?_) #[true, true, true, true, true, false, false, false, false, false, false] rfl rfl (by kernel_rfl) (fun _ _ _ h => h) (Or.inl ⟨by rfl, ?_⟩) hHeld ?_ ?_
      rotate_left
      ·rintro w' ⟨s0, s1, s2, s3, s4, s5⟩
       go_simp
       with_reducible rfl
      rotate_left
      ·simp only [Act.put, List.setIfInBounds_toArray, List.set_cons_zero, List.set_cons_succ, i64_w, i32_w]
       rfl
      refine take_ (i := 5) (N := some 63) (v := ?_) (a' := ?_) #[true, true, true, true, true, true, false, false, false, false, false] rfl rfl (by kernel_rfl) (fun _ _ _ h => h) (Or.inl ⟨by rfl, ?_⟩) hHeld ?_ ?_
      rotate_left
      ·rintro w' ⟨s0, s1, s2, s3, s4, s5⟩
       go_simp
       with_reducible rfl
      rotate_left
      ·simp only [Act.put, List.setIfInBounds_toArray, List.set_cons_zero, List.set_cons_succ, i64_w, i32_w]
       rfl
      refine one_ (i := 6) (N := some 64) #[true, true, true, true, true, true, true, false, false, false, false] rfl rfl (by kernel_rfl) (by decide) (fun K hK => ?_)
      refine value_ (w1 := ?_) (v := ?_) (by rfl) rfl ?_ ?_
      rotate_left 2
      ·go_simp
       constructor
       ·rfl
       ·rfl
      refine hK.out _ _ ⟨(zp _), (z0 _), (z1 _), (z2 _), (z3 _), (z4 _)⟩ (fun hHeld => ?_)
      clear hK K
      refine norm_ (a' := ?_) ?_ ?_
      rotate_left
      ·show Act.put _ (some 64) _ = _
       simp only [Act.put, List.setIfInBounds_toArray, List.set_cons_zero, List.set_cons_succ, i64_w, i32_w]
       rfl
      refine last_ (i := 7) (N := some 65) #[true, true, true, true, true, true, true, true, false, false, false] rfl rfl (by kernel_rfl) (by decide) (fun K hK => ?_)
      have HS1 := Aside0.mk (HSX.out.step hbp (((Below.refl wx.heap.size wx).drew).alloc (Nat.le_refl _) (.cells #[.int .i64 ((F + (k : Int)) % 65536), .bool false, .int .i64 0, .bool false, .bool false] 58)))
      have HBX : Aside0 (b ≤ (wx.drew.alloc (.cells #[.int .i64 ((F + (k : Int)) % 65536), .bool false, .int .i64 0, .bool false, .bool false] 58)).heap.size) := ⟨Nat.le_trans hbp (Nat.le_of_lt (blk_lt HS1.out.1))⟩
      refine row_append_step (w := (wx.drew.alloc (.cells #[.int .i64 ((F + (k : Int)) % 65536), .bool false, .int .i64 0, .bool false, .bool false] 58))) (.tmp 62) (.tmp 64) 23 rfl 58 Try.t58 (.agg #[.int .i64 0, .bool false, .int .i64 0, .bool false, .bool false]) 5 32 Try.underlying23 (by kernel_rfl) rfl rfl rfl (by decide) (by decide) b vr2 X.length (repV X) (by rfl) HS1.out.2.2.2.1 ⟨wx.heap.size, 0, none⟩ 1 1 [(.int .i64 ((F + (k : Int)) % 65536)), (.bool false), (.int .i64 0), (.bool false), (.bool false)] (by rfl) rfl (new_news wx.drew _ _) (by simp [Value.oneCell']) (by simp only [maxLen]; omega) (by omega) HBX.out ?_
      intro v1 w6 hR6 hG6 hO6 hF6
      obtain ⟨g6, o6, c6_, rfl, hb6, hn6, hc6, hx6⟩ := hR6.some_ (by omega)
      have Y0 := gb_blkR hG6 HS1.out.2.2.2.1 HS1.out.1 (by decide)
      have HFS := Aside0.mk (HS1.out.push (x := (((F + (k : Int)) % 65536), false, 0, false, false)) hbp n4 n8 hG6 hR6)
      have u0 := blk_cell Y0 0
      have u0f := blk_frozen Y0 0
      simp only [List.getElem?_toArray, List.getElem?_cons_zero, List.getElem?_cons_succ] at u0
      clear Y0 hx6 hR6 hG6 hO6 hF6
      refine hK.out _ _ ?_
      clear hK K
      refine norm_ (a' := ?_) ?_ ?_
      rotate_left
      ·show Act.put _ (some 65) _ = _
       simp only [Act.put, List.setIfInBounds_toArray, List.set_cons_zero, List.set_cons_succ, i64_w, i32_w]
       rfl
      refine pure_ (i := 8) (N := some 66) (v := ?_) (a' := ?_) #[true, true, true, true, true, true, true, true, true, false, false] rfl rfl (by kernel_rfl) (fun _ _ _ h => h) (Or.inl ⟨by rfl, ?_⟩) ?_ ?_
      rotate_left
      ·intro w'
       go_simp
       with_reducible rfl
      rotate_left
      ·simp only [Act.put, List.setIfInBounds_toArray, List.set_cons_zero, List.set_cons_succ, i64_w, i32_w]
       rfl
      refine pure_ (i := 9) (N := some 67) (v := ?_) (a' := ?_) #[true, true, true, true, true, true, true, true, true, true, false] rfl rfl (by kernel_rfl) (fun _ _ _ h => h) (Or.inl ⟨by rfl, ?_⟩) ?_ ?_
      rotate_left
      ·intro w'
       go_simp
       with_reducible rfl
      rotate_left
      ·simp only [Act.put, List.setIfInBounds_toArray, List.set_cons_zero, List.set_cons_succ, i64_w, i32_w]
       rfl
      refine last_ (i := 10) (N := none) #[true, true, true, true, true, true, true, true, true, true, true] rfl rfl (by kernel_rfl) (by decide) (fun K hK => ?_)
      refine skip_ (w1 := ?_) (by rfl) rfl ?_ ?_
      rotate_left
      ·go_simp
       rfl
      refine hK.out _ _ ?_
      clear hK K
      refine done_ (by kernel_rfl) ?_
      go_wp2_with fail
      have hFS := HFS.out
      rw [HXE.out] at hFS
      obtain ⟨j0, j1, j2, j3, j4, j5, j6, j7⟩ := hFS
      exact ⟨⟨k + 1, _, by simp, by omega, ⟨j0⟩, ⟨j1⟩, ⟨j2⟩, ⟨j3⟩, ⟨j4⟩, ⟨j5⟩, ⟨j6⟩, ⟨j7⟩⟩, by simp [intOf]; omega⟩
     | true =>
      have X9A := Aside0.mk ((BB.out.block g9 (blk_lt X9.out)).trans X9.out)
      have y0 := blk_cell X9A.out 0
      have y1 := blk_cell X9A.out 1
      have y2 := blk_cell X9A.out 2
      have a3 := blk_cell XX.out 3
      have a4 := blk_cell XX.out 4
      have f3 := blk_frozen XX.out 3
      have f4 := blk_frozen XX.out 4
      simp only [List.getElem?_toArray, List.getElem?_cons_zero, List.getElem?_cons_succ] at y0 y1 y2 a3 a4
      by_cases hla : 8190 ≤ ago
      ·have q8 : decide (8190 ≤ ago) = true := decide_eq_true hla
       have HLA := Aside0.mk hla
       clear hla
       go_wp2_with fail
       go_region
       clear y0 y1 y2 a3 a4 f3 f4
       have e_ := blk_set (w := (wA.setCell ⟨gA, 3, none⟩ (.bool true))) (blk_set (w := wA) XX.out 3 (.bool true)) 4 (.bool (ecn == 3))
       simp only [List.setIfInBounds_toArray, List.set_cons_zero, List.set_cons_succ] at e_
       have BB2 : Aside0 (Below w9.heap.size w9 (((wA.setCell ⟨gA, 3, none⟩ (.bool true)).setCell ⟨gA, 4, none⟩ (.bool (ecn == 3)))).drew) := ⟨(((BB.out.setCell (p := ⟨gA, 3, none⟩) hA9 (.bool true)).setCell (p := ⟨gA, 4, none⟩) hA9 (.bool (ecn == 3)))).drew⟩
       have XX2 : Aside0 ((((wA.setCell ⟨gA, 3, none⟩ (.bool true)).setCell ⟨gA, 4, none⟩ (.bool (ecn == 3)))).drew.heap[gA]? = some (.cells #[.int .i64 ((F + (k : Int)) % 65536), .bool true, .int .i64 0, .bool true, .bool (ecn == 3)] 58 (0, 0))) := ⟨e_⟩
       clear e_ BB XX
       generalize (((wA.setCell ⟨gA, 3, none⟩ (.bool true)).setCell ⟨gA, 4, none⟩ (.bool (ecn == 3)))).drew = wx at *
       have BB := BB2
       have XX := XX2
       clear BB2 XX2
       have a3 := blk_cell XX.out 3
       simp only [List.getElem?_toArray, List.getElem?_cons_zero, List.getElem?_cons_succ] at a3
       go_wp2_with fail
       clear a3
       have HSX := Aside0.mk (HS.out.step hbp BB.out)
       have hXE : X ++ [(((F + (k : Int)) % 65536), true, 0, true, (ecn == 3))] = R' ++ repsM now F ms (k + 1) := by rw [repsM_succ HMK.out, ← List.append_assoc, ← HXX.out, rep1_late rfl HLA.out]
       have HXE := Aside0.mk hXE
       clear hXE
       have kc := blk_cell HSX.out.1 0
       simp only [List.getElem?_toArray, List.getElem?_cons_zero, List.getElem?_cons_succ] at kc
       have x0 := blk_cell XX.out 0
       simp only [List.getElem?_toArray, List.getElem?_cons_zero, List.getElem?_cons_succ] at x0
       have x1 := blk_cell XX.out 1
       simp only [List.getElem?_toArray, List.getElem?_cons_zero, List.getElem?_cons_succ] at x1
       have x2 := blk_cell XX.out 2
       simp only [List.getElem?_toArray, List.getElem?_cons_zero, List.getElem?_cons_succ] at x2
       have x3 := blk_cell XX.out 3
       simp only [List.getElem?_toArray, List.getElem?_cons_zero, List.getElem?_cons_succ] at x3
       have x4 := blk_cell XX.out 4
       simp only [List.getElem?_toArray, List.getElem?_cons_zero, List.getElem?_cons_succ] at x4
       have zp : ∀ o, (wx.alloc o).cell? ⟨p, 0, none⟩ = some vr2 := fun o => (World.cell?_alloc_past _ _ _ (blk_lt HSX.out.1)).trans kc
       have z0 : ∀ o, (wx.alloc o).cell? ⟨gA, 0, none⟩ = some (.int .i64 ((F + (k : Int)) % 65536)) := fun o => (World.cell?_alloc_past _ _ _ (blk_lt XX.out)).trans x0
       have z1 : ∀ o, (wx.alloc o).cell? ⟨gA, 1, none⟩ = some (.bool true) := fun o => (World.cell?_alloc_past _ _ _ (blk_lt XX.out)).trans x1
       have z2 : ∀ o, (wx.alloc o).cell? ⟨gA, 2, none⟩ = some (.int .i64 0) := fun o => (World.cell?_alloc_past _ _ _ (blk_lt XX.out)).trans x2
       have z3 : ∀ o, (wx.alloc o).cell? ⟨gA, 3, none⟩ = some (.bool true) := fun o => (World.cell?_alloc_past _ _ _ (blk_lt XX.out)).trans x3
       have z4 : ∀ o, (wx.alloc o).cell? ⟨gA, 4, none⟩ = some (.bool (ecn == 3)) := fun o => (World.cell?_alloc_past _ _ _ (blk_lt XX.out)).trans x4
       refine start_ (n := 11) (S := fun w' => w'.cell? ⟨p, 0, none⟩ = some vr2 ∧ w'.cell? ⟨gA, 0, none⟩ = some (.int .i64 ((F + (k : Int)) % 65536)) ∧ w'.cell? ⟨gA, 1, none⟩ = some (.bool true) ∧ w'.cell? ⟨gA, 2, none⟩ = some (.int .i64 0) ∧ w'.cell? ⟨gA, 3, none⟩ = some (.bool true) ∧ w'.cell? ⟨gA, 4, none⟩ = some (.bool (ecn == 3))) (ds := [7, 10]) #[false, false, false, false, false, false, false, false, false, false, false] (by kernel_rfl) rfl rfl ⟨kc, x0, x1, x2, x3, x4⟩ (fun hHeld => ?_)
       refine pure_ (i := 0) (N := some 58) (v := ?_) (a' := ?_) #[true, false, false, false, false, false, false, false, false, false, false] rfl rfl (by kernel_rfl) (fun _ _ _ h => h) (Or.inl ⟨by rfl, ?_⟩) ?_ ?_
       rotate_left
       ·intro w'
        go_simp
        with_reducible rfl
       rotate_left
       ·simp only [Act.put, List.setIfInBounds_toArray, List.set_cons_zero, List.set_cons_succ, i64_w, i32_w]
        rfl
       refine pure_ (i := 1) (N := some 59) (v := ?_) (a' := ?_) #[true, true, false, false, false, false, false, false, false, false, false] rfl rfl (by kernel_rfl) (fun _ _ _ h => h) (Or.inl ⟨by rfl, ?_⟩) ?_ ?_
       rotate_left
       ·intro w'
        go_simp
        with_reducible rfl
       rotate_left
       ·simp only [Act.put, List.setIfInBounds_toArray, List.set_cons_zero, List.set_cons_succ, i64_w, i32_w]
        rfl
       refine pure_ (i := 2) (N := some 60) (v := ?_) (a' := ?_) #[true, true, true, false, false, false, false, false, false, false, false] rfl rfl (by kernel_rfl) (fun _ _ _ h => h) (Or.inl ⟨by rfl, ?_⟩) ?_ ?_
       rotate_left
       ·intro w'
        go_simp
        with_reducible rfl
       rotate_left
       ·simp only [Act.put, List.setIfInBounds_toArray, List.set_cons_zero, List.set_cons_succ, i64_w, i32_w]
        rfl
       refine pure_ (i := 3) (N := some 61) (v := ?_) (a' := ?_) #[true, true, true, true, false, false, false, false, false, false, false] rfl rfl (by kernel_rfl) (fun _ _ _ h => h) (Or.inl ⟨by rfl, ?_⟩) ?_ ?_
       rotate_left
       ·intro w'
        go_simp
        with_reducible rfl
       rotate_left
       ·simp only [Act.put, List.setIfInBounds_toArray, List.set_cons_zero, List.set_cons_succ, i64_w, i32_w]
        rfl
       refine take_ (i := 4) (N := some 62) (v := ?_) (a' := ?_) #[true, true, true, true, true, false, false, false, false, false, false] rfl rfl (by kernel_rfl) (fun _ _ _ h => h) (Or.inl ⟨by rfl, ?_⟩) hHeld ?_ ?_
       rotate_left
       ·rintro w' ⟨s0, s1, s2, s3, s4, s5⟩
        go_simp
        with_reducible rfl
       rotate_left
       ·simp only [Act.put, List.setIfInBounds_toArray, List.set_cons_zero, List.set_cons_succ, i64_w, i32_w]
        rfl
       refine take_ (i := 5) (N := some 63) (v := ?_) (a' := ?_) #[true, true, true, true, true, true, false, false, false, false, false] rfl rfl (by kernel_rfl) (fun _ _ _ h => h) (Or.inl ⟨by rfl, ?_⟩) hHeld ?_ ?_
       rotate_left
       ·rintro w' ⟨s0, s1, s2, s3, s4, s5⟩
        go_simp
        with_reducible rfl
       rotate_left
       ·simp only [Act.put, List.setIfInBounds_toArray, List.set_cons_zero, List.set_cons_succ, i64_w, i32_w]
        rfl
       refine one_ (i := 6) (N := some 64) #[true, true, true, true, true, true, true, false, false, false, false] rfl rfl (by kernel_rfl) (by decide) (fun K hK => ?_)
       refine value_ (w1 := ?_) (v := ?_) (by rfl) rfl ?_ ?_
       rotate_left 2
       ·go_simp
        constructor
        ·rfl
        ·rfl
       refine hK.out _ _ ⟨(zp _), (z0 _), (z1 _), (z2 _), (z3 _), (z4 _)⟩ (fun hHeld => ?_)
       clear hK K
       refine norm_ (a' := ?_) ?_ ?_
       rotate_left
       ·show Act.put _ (some 64) _ = _
        simp only [Act.put, List.setIfInBounds_toArray, List.set_cons_zero, List.set_cons_succ, i64_w, i32_w]
        rfl
       refine last_ (i := 7) (N := some 65) #[true, true, true, true, true, true, true, true, false, false, false] rfl rfl (by kernel_rfl) (by decide) (fun K hK => ?_)
       have HS1 := Aside0.mk (HSX.out.step hbp (((Below.refl wx.heap.size wx).drew).alloc (Nat.le_refl _) (.cells #[.int .i64 ((F + (k : Int)) % 65536), .bool true, .int .i64 0, .bool true, .bool (ecn == 3)] 58)))
       have HBX : Aside0 (b ≤ (wx.drew.alloc (.cells #[.int .i64 ((F + (k : Int)) % 65536), .bool true, .int .i64 0, .bool true, .bool (ecn == 3)] 58)).heap.size) := ⟨Nat.le_trans hbp (Nat.le_of_lt (blk_lt HS1.out.1))⟩
       refine row_append_step (w := (wx.drew.alloc (.cells #[.int .i64 ((F + (k : Int)) % 65536), .bool true, .int .i64 0, .bool true, .bool (ecn == 3)] 58))) (.tmp 62) (.tmp 64) 23 rfl 58 Try.t58 (.agg #[.int .i64 0, .bool false, .int .i64 0, .bool false, .bool false]) 5 32 Try.underlying23 (by kernel_rfl) rfl rfl rfl (by decide) (by decide) b vr2 X.length (repV X) (by rfl) HS1.out.2.2.2.1 ⟨wx.heap.size, 0, none⟩ 1 1 [(.int .i64 ((F + (k : Int)) % 65536)), (.bool true), (.int .i64 0), (.bool true), (.bool (ecn == 3))] (by rfl) rfl (new_news wx.drew _ _) (by simp [Value.oneCell']) (by simp only [maxLen]; omega) (by omega) HBX.out ?_
       intro v1 w6 hR6 hG6 hO6 hF6
       obtain ⟨g6, o6, c6_, rfl, hb6, hn6, hc6, hx6⟩ := hR6.some_ (by omega)
       have Y0 := gb_blkR hG6 HS1.out.2.2.2.1 HS1.out.1 (by decide)
       have HFS := Aside0.mk (HS1.out.push (x := (((F + (k : Int)) % 65536), true, 0, true, (ecn == 3))) hbp n4 n8 hG6 hR6)
       have u0 := blk_cell Y0 0
       have u0f := blk_frozen Y0 0
       simp only [List.getElem?_toArray, List.getElem?_cons_zero, List.getElem?_cons_succ] at u0
       clear Y0 hx6 hR6 hG6 hO6 hF6
       refine hK.out _ _ ?_
       clear hK K
       refine norm_ (a' := ?_) ?_ ?_
       rotate_left
       ·show Act.put _ (some 65) _ = _
        simp only [Act.put, List.setIfInBounds_toArray, List.set_cons_zero, List.set_cons_succ, i64_w, i32_w]
        rfl
       refine pure_ (i := 8) (N := some 66) (v := ?_) (a' := ?_) #[true, true, true, true, true, true, true, true, true, false, false] rfl rfl (by kernel_rfl) (fun _ _ _ h => h) (Or.inl ⟨by rfl, ?_⟩) ?_ ?_
       rotate_left
       ·intro w'
        go_simp
        with_reducible rfl
       rotate_left
       ·simp only [Act.put, List.setIfInBounds_toArray, List.set_cons_zero, List.set_cons_succ, i64_w, i32_w]
        rfl
       refine pure_ (i := 9) (N := some 67) (v := ?_) (a' := ?_) #[true, true, true, true, true, true, true, true, true, true, false] rfl rfl (by kernel_rfl) (fun _ _ _ h => h) (Or.inl ⟨by rfl, ?_⟩) ?_ ?_
       rotate_left
       ·intro w'
        go_simp
        with_reducible rfl
       rotate_left
       ·simp only [Act.put, List.setIfInBounds_toArray, List.set_cons_zero, List.set_cons_succ, i64_w, i32_w]
        rfl
       refine last_ (i := 10) (N := none) #[true, true, true, true, true, true, true, true, true, true, true] rfl rfl (by kernel_rfl) (by decide) (fun K hK => ?_)
       refine skip_ (w1 := ?_) (by rfl) rfl ?_ ?_
       rotate_left
       ·go_simp
        rfl
       refine hK.out _ _ ?_
       clear hK K
       refine done_ (by kernel_rfl) ?_
       go_wp2_with fail
       have hFS := HFS.out
       rw [HXE.out] at hFS
       obtain ⟨j0, j1, j2, j3, j4, j5, j6, j7⟩ := hFS
       exact ⟨⟨k + 1, _, by simp, by omega, ⟨j0⟩, ⟨j1⟩, ⟨j2⟩, ⟨j3⟩, ⟨j4⟩, ⟨j5⟩, ⟨j6⟩, ⟨j7⟩⟩, by simp [intOf]; omega⟩
      ·have q8 : decide (8190 ≤ ago) = false := decide_eq_false hla
       have HLA := Aside0.mk hla
       clear hla
       go_wp2_with fail
       go_region
       clear y0 y1 y2 a3 a4 f3 f4
       have e_ := blk_set (w := (wA.setCell ⟨gA, 3, none⟩ (.bool false))) (blk_set (w := wA) XX.out 3 (.bool false)) 4 (.bool (ecn == 3))
       simp only [List.setIfInBounds_toArray, List.set_cons_zero, List.set_cons_succ] at e_
       have BB2 : Aside0 (Below w9.heap.size w9 (((wA.setCell ⟨gA, 3, none⟩ (.bool false)).setCell ⟨gA, 4, none⟩ (.bool (ecn == 3)))).drew) := ⟨(((BB.out.setCell (p := ⟨gA, 3, none⟩) hA9 (.bool false)).setCell (p := ⟨gA, 4, none⟩) hA9 (.bool (ecn == 3)))).drew⟩
       have XX2 : Aside0 ((((wA.setCell ⟨gA, 3, none⟩ (.bool false)).setCell ⟨gA, 4, none⟩ (.bool (ecn == 3)))).drew.heap[gA]? = some (.cells #[.int .i64 ((F + (k : Int)) % 65536), .bool true, .int .i64 0, .bool false, .bool (ecn == 3)] 58 (0, 0))) := ⟨e_⟩
       clear e_ BB XX
       generalize (((wA.setCell ⟨gA, 3, none⟩ (.bool false)).setCell ⟨gA, 4, none⟩ (.bool (ecn == 3)))).drew = wB at *
       have BB := BB2
       have XX := XX2
       clear BB2 XX2
       have a3 := blk_cell XX.out 3
       have X9B := Aside0.mk ((BB.out.block g9 (blk_lt X9.out)).trans X9.out)
       have y2 := blk_cell X9B.out 2
       simp only [List.getElem?_toArray, List.getElem?_cons_zero, List.getElem?_cons_succ] at a3 y2
       have CD := Aside0.mk (fun w => do_any ago 1000000 1024 1 (by unfold I64; omega) (by unfold I64; omega) (by unfold I64; omega) w)
       obtain ⟨D, hD⟩ : ∃ D, D = mdo ago 1000000 1024 1 := ⟨_, rfl⟩
       rw [← hD] at CD
       have HD := Aside0.mk hD
       clear hD
       go_wp2_with fail
       refine (CD.out _).mono ?_
       rintro e w5 ⟨rfl, hb5⟩
       replace XX := Aside0.mk ((hb5.block gA (blk_lt XX.out)).trans XX.out)
       replace BB := Aside0.mk (BB.out.trans (hb5.mono BB.out.size))
       clear hb5 a3 y2 CD
       have a2 := blk_cell XX.out 2
       have f2 := blk_frozen XX.out 2
       simp only [List.getElem?_toArray, List.getElem?_cons_zero, List.getElem?_cons_succ] at a2
       go_wp2_with fail
       clear a2 f2
       obtain ⟨T, hT⟩ : ∃ T, T = wrap64 (now - D) := ⟨_, rfl⟩
       rw [← hT]
       have HT := Aside0.mk hT
       clear hT
       have e_ := blk_set (w := w5) XX.out 2 (.int .i64 T)
       simp only [List.setIfInBounds_toArray, List.set_cons_zero, List.set_cons_succ] at e_
       have BB2 : Aside0 (Below w9.heap.size w9 (w5.setCell ⟨gA, 2, none⟩ (.int .i64 T))) := ⟨(BB.out.setCell (p := ⟨gA, 2, none⟩) hA9 (.int .i64 T))⟩
       have XX2 : Aside0 ((w5.setCell ⟨gA, 2, none⟩ (.int .i64 T)).heap[gA]? = some (.cells #[.int .i64 ((F + (k : Int)) % 65536), .bool true, .int .i64 T, .bool false, .bool (ecn == 3)] 58 (0, 0))) := ⟨e_⟩
       clear e_ BB XX
       generalize (w5.setCell ⟨gA, 2, none⟩ (.int .i64 T)) = wx at *
       have BB := BB2
       have XX := XX2
       clear BB2 XX2
       have HSX := Aside0.mk (HS.out.step hbp BB.out)
       have hXE : X ++ [(((F + (k : Int)) % 65536), true, T, false, (ecn == 3))] = R' ++ repsM now F ms (k + 1) := by rw [repsM_succ HMK.out, ← List.append_assoc, ← HXX.out, rep1_at (m := (true, ecn, ago)) rfl (Int.not_le.2 HLA.out), ← HD.out, ← HT.out]
       have HXE := Aside0.mk hXE
       clear hXE
       have kc := blk_cell HSX.out.1 0
       simp only [List.getElem?_toArray, List.getElem?_cons_zero, List.getElem?_cons_succ] at kc
       have x0 := blk_cell XX.out 0
       simp only [List.getElem?_toArray, List.getElem?_cons_zero, List.getElem?_cons_succ] at x0
       have x1 := blk_cell XX.out 1
       simp only [List.getElem?_toArray, List.getElem?_cons_zero, List.getElem?_cons_succ] at x1
       have x2 := blk_cell XX.out 2
       simp only [List.getElem?_toArray, List.getElem?_cons_zero, List.getElem?_cons_succ] at x2
       have x3 := blk_cell XX.out 3
       simp only [List.getElem?_toArray, List.getElem?_cons_zero, List.getElem?_cons_succ] at x3
       have x4 := blk_cell XX.out 4
       simp only [List.getElem?_toArray, List.getElem?_cons_zero, List.getElem?_cons_succ] at x4
       have zp : ∀ o, (wx.alloc o).cell? ⟨p, 0, none⟩ = some vr2 := fun o => (World.cell?_alloc_past _ _ _ (blk_lt HSX.out.1)).trans kc
       have z0 : ∀ o, (wx.alloc o).cell? ⟨gA, 0, none⟩ = some (.int .i64 ((F + (k : Int)) % 65536)) := fun o => (World.cell?_alloc_past _ _ _ (blk_lt XX.out)).trans x0
       have z1 : ∀ o, (wx.alloc o).cell? ⟨gA, 1, none⟩ = some (.bool true) := fun o => (World.cell?_alloc_past _ _ _ (blk_lt XX.out)).trans x1
       have z2 : ∀ o, (wx.alloc o).cell? ⟨gA, 2, none⟩ = some (.int .i64 T) := fun o => (World.cell?_alloc_past _ _ _ (blk_lt XX.out)).trans x2
       have z3 : ∀ o, (wx.alloc o).cell? ⟨gA, 3, none⟩ = some (.bool false) := fun o => (World.cell?_alloc_past _ _ _ (blk_lt XX.out)).trans x3
       have z4 : ∀ o, (wx.alloc o).cell? ⟨gA, 4, none⟩ = some (.bool (ecn == 3)) := fun o => (World.cell?_alloc_past _ _ _ (blk_lt XX.out)).trans x4
       refine start_ (n := 11) (S := fun w' => w'.cell? ⟨p, 0, none⟩ = some vr2 ∧ w'.cell? ⟨gA, 0, none⟩ = some (.int .i64 ((F + (k : Int)) % 65536)) ∧ w'.cell? ⟨gA, 1, none⟩ = some (.bool true) ∧ w'.cell? ⟨gA, 2, none⟩ = some (.int .i64 T) ∧ w'.cell? ⟨gA, 3, none⟩ = some (.bool false) ∧ w'.cell? ⟨gA, 4, none⟩ = some (.bool (ecn == 3))) (ds := [7, 10]) #[false, false, false, false, false, false, false, false, false, false, false] (by kernel_rfl) rfl rfl ⟨kc, x0, x1, x2, x3, x4⟩ (fun hHeld => ?_)
       refine pure_ (i := 0) (N := some 58) (v := ?_) (a' := ?_) #[true, false, false, false, false, false, false, false, false, false, false] rfl rfl (by kernel_rfl) (fun _ _ _ h => h) (Or.inl ⟨by rfl, ?_⟩) ?_ ?_
       rotate_left
       ·intro w'
        go_simp
        with_reducible rfl
       rotate_left
       ·simp only [Act.put, List.setIfInBounds_toArray, List.set_cons_zero, List.set_cons_succ, i64_w, i32_w]
        rfl
       refine pure_ (i := 1) (N := some 59) (v := ?_) (a' := ?_) #[true, true, false, false, false, false, false, false, false, false, false] rfl rfl (by kernel_rfl) (fun _ _ _ h => h) (Or.inl ⟨by rfl, ?_⟩) ?_ ?_
       rotate_left
       ·intro w'
        go_simp
        with_reducible rfl
       rotate_left
       ·simp only [Act.put, List.setIfInBounds_toArray, List.set_cons_zero, List.set_cons_succ, i64_w, i32_w]
        rfl
       refine pure_ (i := 2) (N := some 60) (v := ?_) (a' := ?_) #[true, true, true, false, false, false, false, false, false, false, false] rfl rfl (by kernel_rfl) (fun _ _ _ h => h) (Or.inl ⟨by rfl, ?_⟩) ?_ ?_
       rotate_left
       ·intro w'
        go_simp
        with_reducible rfl
       rotate_left
       ·simp only [Act.put, List.setIfInBounds_toArray, List.set_cons_zero, List.set_cons_succ, i64_w, i32_w]
        rfl
       refine pure_ (i := 3) (N := some 61) (v := ?_) (a' := ?_) #[true, true, true, true, false, false, false, false, false, false, false] rfl rfl (by kernel_rfl) (fun _ _ _ h => h) (Or.inl ⟨by rfl, ?_⟩) ?_ ?_
       rotate_left
       ·intro w'
        go_simp
        with_reducible rfl
       rotate_left
       ·simp only [Act.put, List.setIfInBounds_toArray, List.set_cons_zero, List.set_cons_succ, i64_w, i32_w]
        rfl
       refine take_ (i := 4) (N := some 62) (v := ?_) (a' := ?_) #[true, true, true, true, true, false, false, false, false, false, false] rfl rfl (by kernel_rfl) (fun _ _ _ h => h) (Or.inl ⟨by rfl, ?_⟩) hHeld ?_ ?_
       rotate_left
       ·rintro w' ⟨s0, s1, s2, s3, s4, s5⟩
        go_simp
        with_reducible rfl
       rotate_left
       ·simp only [Act.put, List.setIfInBounds_toArray, List.set_cons_zero, List.set_cons_succ, i64_w, i32_w]
        rfl
       refine take_ (i := 5) (N := some 63) (v := ?_) (a' := ?_) #[true, true, true, true, true, true, false, false, false, false, false] rfl rfl (by kernel_rfl) (fun _ _ _ h => h) (Or.inl ⟨by rfl, ?_⟩) hHeld ?_ ?_
       rotate_left
       ·rintro w' ⟨s0, s1, s2, s3, s4, s5⟩
        go_simp
        with_reducible rfl
       rotate_left
       ·simp only [Act.put, List.setIfInBounds_toArray, List.set_cons_zero, List.set_cons_succ, i64_w, i32_w]
        rfl
       refine one_ (i := 6) (N := some 64) #[true, true, true, true, true, true, true, false, false, false, false] rfl rfl (by kernel_rfl) (by decide) (fun K hK => ?_)
       refine value_ (w1 := ?_) (v := ?_) (by rfl) rfl ?_ ?_
       rotate_left 2
       ·go_simp
        constructor
        ·rfl
        ·rfl
       refine hK.out _ _ ⟨(zp _), (z0 _), (z1 _), (z2 _), (z3 _), (z4 _)⟩ (fun hHeld => ?_)
       clear hK K
       refine norm_ (a' := ?_) ?_ ?_
       rotate_left
       ·show Act.put _ (some 64) _ = _
        simp only [Act.put, List.setIfInBounds_toArray, List.set_cons_zero, List.set_cons_succ, i64_w, i32_w]
        rfl
       refine last_ (i := 7) (N := some 65) #[true, true, true, true, true, true, true, true, false, false, false] rfl rfl (by kernel_rfl) (by decide) (fun K hK => ?_)
       have HS1 := Aside0.mk (HSX.out.step hbp (((Below.refl wx.heap.size wx).drew).alloc (Nat.le_refl _) (.cells #[.int .i64 ((F + (k : Int)) % 65536), .bool true, .int .i64 T, .bool false, .bool (ecn == 3)] 58)))
       have HBX : Aside0 (b ≤ (wx.drew.alloc (.cells #[.int .i64 ((F + (k : Int)) % 65536), .bool true, .int .i64 T, .bool false, .bool (ecn == 3)] 58)).heap.size) := ⟨Nat.le_trans hbp (Nat.le_of_lt (blk_lt HS1.out.1))⟩
       refine row_append_step (w := (wx.drew.alloc (.cells #[.int .i64 ((F + (k : Int)) % 65536), .bool true, .int .i64 T, .bool false, .bool (ecn == 3)] 58))) (.tmp 62) (.tmp 64) 23 rfl 58 Try.t58 (.agg #[.int .i64 0, .bool false, .int .i64 0, .bool false, .bool false]) 5 32 Try.underlying23 (by kernel_rfl) rfl rfl rfl (by decide) (by decide) b vr2 X.length (repV X) (by rfl) HS1.out.2.2.2.1 ⟨wx.heap.size, 0, none⟩ 1 1 [(.int .i64 ((F + (k : Int)) % 65536)), (.bool true), (.int .i64 T), (.bool false), (.bool (ecn == 3))] (by rfl) rfl (new_news wx.drew _ _) (by simp [Value.oneCell']) (by simp only [maxLen]; omega) (by omega) HBX.out ?_
       intro v1 w6 hR6 hG6 hO6 hF6
       obtain ⟨g6, o6, c6_, rfl, hb6, hn6, hc6, hx6⟩ := hR6.some_ (by omega)
       have Y0 := gb_blkR hG6 HS1.out.2.2.2.1 HS1.out.1 (by decide)
       have HFS := Aside0.mk (HS1.out.push (x := (((F + (k : Int)) % 65536), true, T, false, (ecn == 3))) hbp n4 n8 hG6 hR6)
       have u0 := blk_cell Y0 0
       have u0f := blk_frozen Y0 0
       simp only [List.getElem?_toArray, List.getElem?_cons_zero, List.getElem?_cons_succ] at u0
       clear Y0 hx6 hR6 hG6 hO6 hF6
       refine hK.out _ _ ?_
       clear hK K
       refine norm_ (a' := ?_) ?_ ?_
       rotate_left
       ·show Act.put _ (some 65) _ = _
        simp only [Act.put, List.setIfInBounds_toArray, List.set_cons_zero, List.set_cons_succ, i64_w, i32_w]
        rfl
       refine pure_ (i := 8) (N := some 66) (v := ?_) (a' := ?_) #[true, true, true, true, true, true, true, true, true, false, false] rfl rfl (by kernel_rfl) (fun _ _ _ h => h) (Or.inl ⟨by rfl, ?_⟩) ?_ ?_
       rotate_left
       ·intro w'
        go_simp
        with_reducible rfl
       rotate_left
       ·simp only [Act.put, List.setIfInBounds_toArray, List.set_cons_zero, List.set_cons_succ, i64_w, i32_w]
        rfl
       refine pure_ (i := 9) (N := some 67) (v := ?_) (a' := ?_) #[true, true, true, true, true, true, true, true, true, true, false] rfl rfl (by kernel_rfl) (fun _ _ _ h => h) (Or.inl ⟨by rfl, ?_⟩) ?_ ?_
       rotate_left
       ·intro w'
        go_simp
        with_reducible rfl
       rotate_left
       ·simp only [Act.put, List.setIfInBounds_toArray, List.set_cons_zero, List.set_cons_succ, i64_w, i32_w]
        rfl
       refine last_ (i := 10) (N := none) #[true, true, true, true, true, true, true, true, true, true, true] rfl rfl (by kernel_rfl) (by decide) (fun K hK => ?_)
       refine skip_ (w1 := ?_) (by rfl) rfl ?_ ?_
       rotate_left
       ·go_simp
        rfl
       refine hK.out _ _ ?_
       clear hK K
       refine done_ (by kernel_rfl) ?_
       go_wp2_with fail
       have hFS := HFS.out
       rw [HXE.out] at hFS
       obtain ⟨j0, j1, j2, j3, j4, j5, j6, j7⟩ := hFS
       exact ⟨⟨k + 1, _, by simp, by omega, ⟨j0⟩, ⟨j1⟩, ⟨j2⟩, ⟨j3⟩, ⟨j4⟩, ⟨j5⟩, ⟨j6⟩, ⟨j7⟩⟩, by simp [intOf]; omega⟩
    ·have q5 : decide ((k : Int) < (ms.length : Int)) = false := decide_eq_false (by omega)
     have hkl : k = ms.length := by omega
     rw [hkl] at HR
     clear hkl
     have HR2 := Aside0.mk (show RowV _ b 58 5 vr2 (R ++ repsB now ((L.map (·.1)).take (j + 1))).length (repV (R ++ repsB now ((L.map (·.1)).take (j + 1)))) by
      rw [repsB_take (j := j) (x := (ss, F, ms)) (by rw [List.getElem?_map, HXJ.out]; rfl), ← List.append_assoc, ← HRR.out]
      exact HR.out)
     go_wp2_with fail
     exact ⟨⟨j + 1, vr2, by simp, by omega, K0, K4, HR2, HL, HB, HFr⟩, by simp [intOf]; omega⟩
  ·have q4 : decide ((j : Int) < (L.length : Int)) = false := decide_eq_false (by omega)
   have hjl : (L.map (·.1)).take j = L.map (·.1) := List.take_of_length_le (by rw [List.length_map]; omega)
   rw [hjl] at HR
   clear hjl
   go_wp2_with fail
   (try simp only [Exit.inBlock, Exit.then])
   refine bodyPost_ret (results_none rfl _ _ _) rfl ?_
   exact ⟨rfl, vr, K0.out, HR.out, HB.out, HFr.out⟩
end Go.Proofs.Ytgakmnholegbgaa.B
end
section
namespace Go.Proofs.Ytgakmnholegbgaa.PFeedReads
open Go.RowKit Go.Proofs.YtgakmnholegbgaaW.PrintWords Go.Proofs.YtgakmnholegbgaaW.PrintLast Go.Proofs.YtgakmnholegbgaaW.PrintMore
attribute [local go_sem] max2_int min2_int max_two min_two max_three min_three max_four min_four
set_option linter.unusedVariables false
set_option linter.unusedSimpArgs false
def errW : Option Int → Value
 | none => .nilIface
 | some c => .iface 0 (.int .i64 c)
theorem errW_none : errW none = .nilIface := rfl
theorem errW_some (c : Int) : errW (some c) = .iface 0 (.int .i64 c) := rfl
theorem info3 : (Try.prog.info? 3).map (fun i => (i.zero, i.size, i.bytes)) = some (some (.int .i64 0), 1, 8) := by kernel_rfl
theorem info5 : (Try.prog.info? 5).map (fun i => (i.zero, i.size, i.bytes)) = some (some (.int .u8 0), 1, 1) := by kernel_rfl
end Go.Proofs.Ytgakmnholegbgaa.PFeedReads
end
section
namespace Go.Proofs.Ytgakmnholegbgaa.PFeedReads
open Go.RowKit Go.Proofs.YtgakmnholegbgaaW.PrintWords Go.Proofs.YtgakmnholegbgaaW.PrintLast Go.Proofs.YtgakmnholegbgaaW.PrintMore
attribute [local go_sem] max2_int min2_int max_two min_two max_three min_three max_four min_four
set_option linter.unusedVariables false
set_option linter.unusedSimpArgs false
def wrap_good.f (a0 : Int) : Option (Bool) := if a0 ≥ 1 then (some (decide (a0 ≤ 32))) else (some false)
set_option maxHeartbeats 8000000 in
set_option maxRecDepth 100000 in
theorem wrap_good.calls (a0 : Int) (r : Bool) (w : World) (h : wrap_good.f a0 = some r) :
  Calls Try.prog 66 #[.int .i64 a0] w fun e w' => e = .returned (.bool r) ∧ Drawn0 w w' := by
 have H : (if a0 ≥ 1 then (some (decide (a0 ≤ 32))) else (some false)) = some r := h
 clear h
 by_cases c2 : a0 ≥ 1
 ·rw [if_pos c2] at H
  have c2b0 : decide (1 ≤ a0) = true := decide_eq_true c2
  clear c2
  obtain rfl := Option.some.inj H
  go_enter Try.func66, Try.ntmps66
  go_wp2
  go_ret
  exact ⟨by first | rfl | (simp; done) | (simp [*]; done), by repeat (first | exact Drawn0.refl _ | apply Drawn0.step)⟩
 ·rw [if_neg c2] at H
  have c2b0 : decide (1 ≤ a0) = false := decide_eq_false c2
  clear c2
  obtain rfl := Option.some.inj H
  go_enter Try.func66, Try.ntmps66
  go_wp2
  go_ret
  exact ⟨by first | rfl | (simp; done) | (simp [*]; done), by repeat (first | exact Drawn0.refl _ | apply Drawn0.step)⟩
def wrap_lower_int64.f (a0 : Int) (a1 : Int) : Option (Int) := if 0 ≤ a1 then (some (Go.bits .and .i64 a0 (wrap64 ((shl .i64 1 a1) - 1)))) else (none)
set_option maxHeartbeats 8000000 in
set_option maxRecDepth 100000 in
theorem wrap_lower_int64.calls (a0 : Int) (a1 : Int) (r : Int) (w : World) (h : wrap_lower_int64.f a0 a1 = some r) :
  Calls Try.prog 67 #[.int .i64 a0, .int .i64 a1] w fun e w' => e = .returned (.int .i64 r) ∧ Drawn0 w w' := by
 have H : (if 0 ≤ a1 then (some (Go.bits .and .i64 a0 (wrap64 ((shl .i64 1 a1) - 1)))) else (none)) = some r := h
 clear h
 by_cases c3 : 0 ≤ a1
 ·rw [if_pos c3] at H
  have c3b0 := eq_true c3
  have c3b1 : decide (0 ≤ a1) = true := decide_eq_true c3
  clear c3
  obtain ⟨ji4, hji4⟩ : ∃ j_ : Int, (shl .i64 1 a1) = j_ := ⟨_, rfl⟩
  replace H : (some (Go.bits .and .i64 a0 (wrap64 ((ji4) - 1)))) = some r := by first | (rw [hji4] at H; exact H) | (simp only [hji4] at H ⊢; exact H)
  have hji4_ : (IntKind.i64.wrap (1 * 2 ^ min a1.toNat 64)) = ji4 := hji4
  have hji4z : a1 ≤ 64 → (IntKind.i64.wrap (1 * 2 ^ a1.toNat)) = ji4 := shl_small hji4
  have hji4u : (IntKind.i64.wrap (2 ^ min a1.toNat 64)) = ji4 := by have h_ := hji4_; rw [Int.one_mul] at h_; exact h_
  have hji4v : a1 ≤ 64 → (IntKind.i64.wrap (2 ^ a1.toNat)) = ji4 := fun hle_ => by have h_ := hji4z hle_; rw [Int.one_mul] at h_; exact h_
  have hji4y : (wrap64 (1 * 2 ^ min a1.toNat 64)) = ji4 := (i64_w _).symm.trans hji4_
  have hji4x : a1 ≤ 64 → (wrap64 (1 * 2 ^ a1.toNat)) = ji4 := fun h_ => (i64_w _).symm.trans (hji4z h_)
  obtain rfl := Option.some.inj H
  go_enter Try.func67, Try.ntmps67
  go_wp2
  go_ret
  exact ⟨by first | rfl | (simp; done) | (simp only [← hji4] <;> (first | rfl | simp)) | (simp [*]; done), by repeat (first | exact Drawn0.refl _ | apply Drawn0.step)⟩
 ·rw [if_neg c3] at H
  exact absurd H (by simp)
def wrap_Cut_p.f (a0 : Int) (a1 : Int) : Option (Int) := (wrap_good.f a1).bind fun t254 => (if t254 = true then ((wrap_lower_int64.f a0 a1).bind fun t255 => (some t255)) else (some 0))
set_option maxHeartbeats 8000000 in
set_option maxRecDepth 100000 in
theorem wrap_Cut_p.calls (a0 : Int) (a1 : Int) (r : Int) (w : World) (h : wrap_Cut_p.f a0 a1 = some r) :
  Calls Try.prog 43 #[.int .i64 a0, .int .i64 a1] w fun e w' => e = .returned (.int .i64 r) ∧ Drawn0 w w' := by
 have H : ((wrap_good.f a1).bind fun t254 => (if t254 = true then ((wrap_lower_int64.f a0 a1).bind fun t255 => (some t255)) else (some 0))) = some r := h
 clear h
 replace H := Option.bind_eq_some_iff.mp H
 obtain ⟨t254, A30, H⟩ := H
 replace H : (if t254 = true then ((wrap_lower_int64.f a0 a1).bind fun t255 => (some t255)) else (some 0)) = some r := H
 have A3 := Aside0.mk A30
 clear A30
 by_cases c4 : t254 = true
 ·subst c4
  have H1 : ((wrap_lower_int64.f a0 a1).bind fun t255 => (some t255)) = some r := by rw [if_pos rfl] at H; exact H
  clear H
  have H := H1
  clear H1
  replace H := Option.bind_eq_some_iff.mp H
  obtain ⟨t255, A50, H⟩ := H
  replace H : (some t255) = some r := H
  have A5 := Aside0.mk A50
  clear A50
  obtain rfl := Option.some.inj H
  go_enter Try.func43, Try.ntmps43
  go_wp2_with (first | ((with_reducible refine gate_callee (f := 66) rfl ?_); refine goesL_ (some 6) rfl rfl Try.func66 (by kernel_rfl) rfl #[.int .i64 a1] rfl (by (try simp only [List.map_toArray, List.map_cons, List.map_nil]); first | done | rfl | (simp only [List.length_drop, List.length_take]; rfl)) ?_; (with_reducible refine (wrap_good.calls a1 true _ A3.out).mono ?_); rintro e w' ⟨rfl, ⟨nd, rfl⟩⟩; refine ⟨_, rfl, ?_⟩) | ((with_reducible refine gate_callee (f := 67) rfl ?_); refine goesL_ (some 10) rfl rfl Try.func67 (by kernel_rfl) rfl #[.int .i64 a0, .int .i64 a1] rfl (by (try simp only [List.map_toArray, List.map_cons, List.map_nil]); first | done | rfl | (simp only [List.length_drop, List.length_take]; rfl)) ?_; (with_reducible refine (wrap_lower_int64.calls a0 a1 t255 _ A5.out).mono ?_); rintro e w' ⟨rfl, ⟨nd, rfl⟩⟩; refine ⟨_, rfl, ?_⟩))
  go_ret
  exact ⟨by first | rfl | (simp; done) | (simp [*]; done), by repeat (first | exact Drawn0.refl _ | apply Drawn0.step)⟩
 ·replace c4 := Bool.eq_false_iff.mpr c4
  subst c4
  have H1 : (some 0) = some r := by rw [if_neg (show ¬ (false = true) by decide)] at H; exact H
  clear H
  have H := H1
  clear H1
  obtain rfl := Option.some.inj H
  go_enter Try.func43, Try.ntmps43
  go_wp2_with (first | ((with_reducible refine gate_callee (f := 66) rfl ?_); refine goesL_ (some 6) rfl rfl Try.func66 (by kernel_rfl) rfl #[.int .i64 a1] rfl (by (try simp only [List.map_toArray, List.map_cons, List.map_nil]); first | done | rfl | (simp only [List.length_drop, List.length_take]; rfl)) ?_; (with_reducible refine (wrap_good.calls a1 false _ A3.out).mono ?_); rintro e w' ⟨rfl, ⟨nd, rfl⟩⟩; refine ⟨_, rfl, ?_⟩))
  go_ret
  exact ⟨by first | rfl | (simp; done) | (simp [*]; done), by repeat (first | exact Drawn0.refl _ | apply Drawn0.step)⟩
def wrap_Cut.f (a0 : Int) (a1 : Int) : Option (Int) := some (if 1 ≤ a1 ∧ a1 ≤ 32 then a0 % 2 ^ a1.toNat else 0)
theorem wrap_Cut.told (a0 a1 : Int) : wrap_Cut_p.f a0 a1 = some (if 1 ≤ a1 ∧ a1 ≤ 32 then a0 % 2 ^ a1.toNat else 0) := by
 unfold wrap_Cut_p.f wrap_good.f wrap_lower_int64.f
 by_cases h1 : a1 ≥ 1
 ·by_cases h2 : a1 ≤ 32
  ·have hc : 1 ≤ a1 ∧ a1 ≤ 32 := ⟨h1, h2⟩
   have h0 : (0 : Int) ≤ a1 := by omega
   rw [if_pos hc, if_pos h1]
   simp only [Option.bind_some, h2, decide_true, if_true, h0]
   congr 1
   obtain ⟨k, rfl⟩ : ∃ k : Nat, a1 = k := ⟨a1.toNat, by omega⟩
   have hp : (2 : Nat) ^ k ≤ 2 ^ 32 := Nat.pow_le_pow_right (by omega) (by omega)
   have hp1 := Nat.two_pow_pos k
   have e2 : ((2 : Int) ^ k) = ((2 ^ k : Nat) : Int) := by rw [Int.natCast_pow]; rfl
   have e : shl .i64 1 (k : Int) = 2 ^ k := by
    unfold shl
    rw [Int.toNat_natCast, Nat.min_eq_left (show k ≤ IntKind.i64.bits from by show k ≤ 64; omega), Int.one_mul, IntKind.wrap_i64]
    rw [e2]; omega
   rw [e, show wrap64 ((2 : Int) ^ k - 1) = 2 ^ k - 1 from by unfold wrap64; rw [e2]; omega, Int.toNat_natCast, B.and_mask_i64 a0 k (by omega)]
  ·have hc : ¬ (1 ≤ a1 ∧ a1 ≤ 32) := fun h => h2 h.2
   rw [if_neg hc, if_pos h1]
   simp [h2]
 ·have hc : ¬ (1 ≤ a1 ∧ a1 ≤ 32) := fun h => h1 h.1
  rw [if_neg hc, if_neg h1]
  simp
theorem wrap_Cut.calls (a0 : Int) (a1 : Int) (r : Int) (w : World) (h : wrap_Cut.f a0 a1 = some r) :
  Calls Try.prog 43 #[.int .i64 a0, .int .i64 a1] w fun e w' => e = .returned (.int .i64 r) ∧ Drawn0 w w' :=
 wrap_Cut_p.calls a0 a1 r w ((wrap_Cut.told a0 a1).trans h)
theorem wrap_Cut.at16 (z : Int) : wrap_Cut.f z 16 = some (z % 65536) := by
 unfold wrap_Cut.f
 have p16 : (2 : Int) ^ (16 : Int).toNat = 65536 := by
  rw [show (16 : Int).toNat = 16 from rfl]
  simp
 have hc : (1 : Int) ≤ 16 ∧ (16 : Int) ≤ 32 := by omega
 rw [if_pos hc, p16]
def wrap_lower_int.f (a0 : Int) (a1 : Int) : Option (Int) := if 0 ≤ a1 then (some (Go.bits .and .i64 a0 (wrap64 ((shl .i64 1 a1) - 1)))) else (none)
set_option maxHeartbeats 8000000 in
set_option maxRecDepth 100000 in
theorem wrap_lower_int.calls (a0 : Int) (a1 : Int) (r : Int) (w : World) (h : wrap_lower_int.f a0 a1 = some r) :
  Calls Try.prog 69 #[.int .i64 a0, .int .i64 a1] w fun e w' => e = .returned (.int .i64 r) ∧ Drawn0 w w' := by
 have H : (if 0 ≤ a1 then (some (Go.bits .and .i64 a0 (wrap64 ((shl .i64 1 a1) - 1)))) else (none)) = some r := h
 clear h
 by_cases c3 : 0 ≤ a1
 ·rw [if_pos c3] at H
  have c3b0 := eq_true c3
  have c3b1 : decide (0 ≤ a1) = true := decide_eq_true c3
  clear c3
  obtain ⟨ji4, hji4⟩ : ∃ j_ : Int, (shl .i64 1 a1) = j_ := ⟨_, rfl⟩
  replace H : (some (Go.bits .and .i64 a0 (wrap64 ((ji4) - 1)))) = some r := by first | (rw [hji4] at H; exact H) | (simp only [hji4] at H ⊢; exact H)
  have hji4_ : (IntKind.i64.wrap (1 * 2 ^ min a1.toNat 64)) = ji4 := hji4
  have hji4z : a1 ≤ 64 → (IntKind.i64.wrap (1 * 2 ^ a1.toNat)) = ji4 := shl_small hji4
  have hji4u : (IntKind.i64.wrap (2 ^ min a1.toNat 64)) = ji4 := by have h_ := hji4_; rw [Int.one_mul] at h_; exact h_
  have hji4v : a1 ≤ 64 → (IntKind.i64.wrap (2 ^ a1.toNat)) = ji4 := fun hle_ => by have h_ := hji4z hle_; rw [Int.one_mul] at h_; exact h_
  have hji4y : (wrap64 (1 * 2 ^ min a1.toNat 64)) = ji4 := (i64_w _).symm.trans hji4_
  have hji4x : a1 ≤ 64 → (wrap64 (1 * 2 ^ a1.toNat)) = ji4 := fun h_ => (i64_w _).symm.trans (hji4z h_)
  obtain rfl := Option.some.inj H
  go_enter Try.func69, Try.ntmps69
  go_wp2
  go_ret
  exact ⟨by first | rfl | (simp; done) | (simp only [← hji4] <;> (first | rfl | simp)) | (simp [*]; done), by repeat (first | exact Drawn0.refl _ | apply Drawn0.step)⟩
 ·rw [if_neg c3] at H
  exact absurd H (by simp)
def wrap_After_p.f (a0 : Int) (a1 : Int) (a2 : Int) : Option (Bool) := (wrap_good.f a2).bind fun t256 => (if t256 = true then (if a0 < 0 then (some false) else (if a1 < 0 then (some false) else (if 0 ≤ a2 then (if a0 ≥ (shl .i64 1 a2) then (some false) else (if a1 ≥ (shl .i64 1 a2) then (some false) else ((wrap_lower_int.f (wrap64 (a0 - a1)) a2).bind fun t257 => (if t257 ≥ 1 then (if 0 ≤ (wrap64 (a2 - 1)) then (some (decide (t257 < (shl .i64 1 (wrap64 (a2 - 1)))))) else (none)) else (some false))))) else (none)))) else (some false))
set_option maxHeartbeats 8000000 in
set_option maxRecDepth 100000 in
theorem wrap_After_p.calls (a0 : Int) (a1 : Int) (a2 : Int) (r : Bool) (w : World) (h : wrap_After_p.f a0 a1 a2 = some r) :
  Calls Try.prog 73 #[.int .i64 a0, .int .i64 a1, .int .i64 a2] w fun e w' => e = .returned (.bool r) ∧ Drawn0 w w' := by
 have H : ((wrap_good.f a2).bind fun t256 => (if t256 = true then (if a0 < 0 then (some false) else (if a1 < 0 then (some false) else (if 0 ≤ a2 then (if a0 ≥ (shl .i64 1 a2) then (some false) else (if a1 ≥ (shl .i64 1 a2) then (some false) else ((wrap_lower_int.f (wrap64 (a0 - a1)) a2).bind fun t257 => (if t257 ≥ 1 then (if 0 ≤ (wrap64 (a2 - 1)) then (some (decide (t257 < (shl .i64 1 (wrap64 (a2 - 1)))))) else (none)) else (some false))))) else (none)))) else (some false))) = some r := h
 clear h
 replace H := Option.bind_eq_some_iff.mp H
 obtain ⟨t256, A40, H⟩ := H
 replace H : (if t256 = true then (if a0 < 0 then (some false) else (if a1 < 0 then (some false) else (if 0 ≤ a2 then (if a0 ≥ (shl .i64 1 a2) then (some false) else (if a1 ≥ (shl .i64 1 a2) then (some false) else ((wrap_lower_int.f (wrap64 (a0 - a1)) a2).bind fun t257 => (if t257 ≥ 1 then (if 0 ≤ (wrap64 (a2 - 1)) then (some (decide (t257 < (shl .i64 1 (wrap64 (a2 - 1)))))) else (none)) else (some false))))) else (none)))) else (some false)) = some r := H
 have A4 := Aside0.mk A40
 clear A40
 by_cases c5 : t256 = true
 ·subst c5
  have H1 : (if a0 < 0 then (some false) else (if a1 < 0 then (some false) else (if 0 ≤ a2 then (if a0 ≥ (shl .i64 1 a2) then (some false) else (if a1 ≥ (shl .i64 1 a2) then (some false) else ((wrap_lower_int.f (wrap64 (a0 - a1)) a2).bind fun t257 => (if t257 ≥ 1 then (if 0 ≤ (wrap64 (a2 - 1)) then (some (decide (t257 < (shl .i64 1 (wrap64 (a2 - 1)))))) else (none)) else (some false))))) else (none)))) = some r := by rw [if_pos rfl] at H; exact H
  clear H
  have H := H1
  clear H1
  by_cases c6 : a0 < 0
  ·rw [if_pos c6] at H
   have c6b0 : decide (a0 < 0) = true := decide_eq_true c6
   clear c6
   obtain rfl := Option.some.inj H
   go_enter Try.func73, Try.ntmps73
   go_wp2_with (first | ((with_reducible refine gate_callee (f := 66) rfl ?_); refine goesL_ (some 9) rfl rfl Try.func66 (by kernel_rfl) rfl #[.int .i64 a2] rfl (by (try simp only [List.map_toArray, List.map_cons, List.map_nil]); first | done | rfl | (simp only [List.length_drop, List.length_take]; rfl)) ?_; (with_reducible refine (wrap_good.calls a2 true _ A4.out).mono ?_); rintro e w' ⟨rfl, ⟨nd, rfl⟩⟩; refine ⟨_, rfl, ?_⟩))
   go_ret
   exact ⟨by first | rfl | (simp; done) | (simp [*]; done), by repeat (first | exact Drawn0.refl _ | apply Drawn0.step)⟩
  ·rw [if_neg c6] at H
   have c6b0 : decide (a0 < 0) = false := decide_eq_false c6
   clear c6
   by_cases c7 : a1 < 0
   ·rw [if_pos c7] at H
    have c7b0 : decide (a1 < 0) = true := decide_eq_true c7
    clear c7
    obtain rfl := Option.some.inj H
    go_enter Try.func73, Try.ntmps73
    go_wp2_with (first | ((with_reducible refine gate_callee (f := 66) rfl ?_); refine goesL_ (some 9) rfl rfl Try.func66 (by kernel_rfl) rfl #[.int .i64 a2] rfl (by (try simp only [List.map_toArray, List.map_cons, List.map_nil]); first | done | rfl | (simp only [List.length_drop, List.length_take]; rfl)) ?_; (with_reducible refine (wrap_good.calls a2 true _ A4.out).mono ?_); rintro e w' ⟨rfl, ⟨nd, rfl⟩⟩; refine ⟨_, rfl, ?_⟩))
    go_ret
    exact ⟨by first | rfl | (simp; done) | (simp [*]; done), by repeat (first | exact Drawn0.refl _ | apply Drawn0.step)⟩
   ·rw [if_neg c7] at H
    have c7b0 : decide (a1 < 0) = false := decide_eq_false c7
    clear c7
    by_cases c8 : 0 ≤ a2
    ·rw [if_pos c8] at H
     have c8b0 := eq_true c8
     have c8b1 : decide (0 ≤ a2) = true := decide_eq_true c8
     clear c8
     obtain ⟨ji9, hji9⟩ : ∃ j_ : Int, (shl .i64 1 a2) = j_ := ⟨_, rfl⟩
     replace H : (if a0 ≥ (ji9) then (some false) else (if a1 ≥ (ji9) then (some false) else ((wrap_lower_int.f (wrap64 (a0 - a1)) a2).bind fun t257 => (if t257 ≥ 1 then (if 0 ≤ (wrap64 (a2 - 1)) then (some (decide (t257 < (shl .i64 1 (wrap64 (a2 - 1)))))) else (none)) else (some false))))) = some r := by first | (rw [hji9] at H; exact H) | (simp only [hji9] at H ⊢; exact H)
     (try rw [hji9] at A4)
     have hji9_ : (IntKind.i64.wrap (1 * 2 ^ min a2.toNat 64)) = ji9 := hji9
     have hji9z : a2 ≤ 64 → (IntKind.i64.wrap (1 * 2 ^ a2.toNat)) = ji9 := shl_small hji9
     have hji9u : (IntKind.i64.wrap (2 ^ min a2.toNat 64)) = ji9 := by have h_ := hji9_; rw [Int.one_mul] at h_; exact h_
     have hji9v : a2 ≤ 64 → (IntKind.i64.wrap (2 ^ a2.toNat)) = ji9 := fun hle_ => by have h_ := hji9z hle_; rw [Int.one_mul] at h_; exact h_
     have hji9y : (wrap64 (1 * 2 ^ min a2.toNat 64)) = ji9 := (i64_w _).symm.trans hji9_
     have hji9x : a2 ≤ 64 → (wrap64 (1 * 2 ^ a2.toNat)) = ji9 := fun h_ => (i64_w _).symm.trans (hji9z h_)
     by_cases c10 : a0 ≥ (ji9)
     ·rw [if_pos c10] at H
      have c10b0 : decide ((ji9) ≤ a0) = true := decide_eq_true c10
      clear c10
      obtain rfl := Option.some.inj H
      go_enter Try.func73, Try.ntmps73
      go_wp2_with (first | ((with_reducible refine gate_callee (f := 66) rfl ?_); refine goesL_ (some 9) rfl rfl Try.func66 (by kernel_rfl) rfl #[.int .i64 a2] rfl (by (try simp only [List.map_toArray, List.map_cons, List.map_nil]); first | done | rfl | (simp only [List.length_drop, List.length_take]; rfl)) ?_; (with_reducible refine (wrap_good.calls a2 true _ A4.out).mono ?_); rintro e w' ⟨rfl, ⟨nd, rfl⟩⟩; refine ⟨_, rfl, ?_⟩))
      go_ret
      exact ⟨by first | rfl | (simp; done) | (simp only [← hji9] <;> (first | rfl | simp)) | (simp [*]; done), by repeat (first | exact Drawn0.refl _ | apply Drawn0.step)⟩
     ·rw [if_neg c10] at H
      have c10b0 : decide ((ji9) ≤ a0) = false := decide_eq_false c10
      clear c10
      have c11b0 := eq_true (of_decide_eq_true (by first | (with_reducible assumption) | assumption) : 0 ≤ a2)
      by_cases c12 : a1 ≥ (ji9)
      ·rw [if_pos c12] at H
       have c12b0 : decide ((ji9) ≤ a1) = true := decide_eq_true c12
       clear c12
       obtain rfl := Option.some.inj H
       go_enter Try.func73, Try.ntmps73
       go_wp2_with (first | ((with_reducible refine gate_callee (f := 66) rfl ?_); refine goesL_ (some 9) rfl rfl Try.func66 (by kernel_rfl) rfl #[.int .i64 a2] rfl (by (try simp only [List.map_toArray, List.map_cons, List.map_nil]); first | done | rfl | (simp only [List.length_drop, List.length_take]; rfl)) ?_; (with_reducible refine (wrap_good.calls a2 true _ A4.out).mono ?_); rintro e w' ⟨rfl, ⟨nd, rfl⟩⟩; refine ⟨_, rfl, ?_⟩))
       go_ret
       exact ⟨by first | rfl | (simp; done) | (simp only [← hji9] <;> (first | rfl | simp)) | (simp [*]; done), by repeat (first | exact Drawn0.refl _ | apply Drawn0.step)⟩
      ·rw [if_neg c12] at H
       have c12b0 : decide ((ji9) ≤ a1) = false := decide_eq_false c12
       clear c12
       replace H := Option.bind_eq_some_iff.mp H
       obtain ⟨t257, A130, H⟩ := H
       replace H : (if t257 ≥ 1 then (if 0 ≤ (wrap64 (a2 - 1)) then (some (decide (t257 < (shl .i64 1 (wrap64 (a2 - 1)))))) else (none)) else (some false)) = some r := H
       have A13 := Aside0.mk A130
       clear A130
       by_cases c14 : t257 ≥ 1
       ·rw [if_pos c14] at H
        have c14b0 : decide (1 ≤ t257) = true := decide_eq_true c14
        clear c14
        obtain ⟨ji15, hji15⟩ : ∃ j_ : Int, (wrap64 (a2 - 1)) = j_ := ⟨_, rfl⟩
        replace H : (if 0 ≤ (ji15) then (some (decide (t257 < (shl .i64 1 (ji15))))) else (none)) = some r := by first | (rw [hji15] at H; exact H) | (simp only [hji15] at H ⊢; exact H)
        (try rw [hji15] at A4)
        (try rw [hji15] at A13)
        have hji15w : (IntKind.i64.wrap (a2 - 1)) = ji15 := (i64_w _).trans hji15
        by_cases c16 : 0 ≤ (ji15)
        ·rw [if_pos c16] at H
         have c16b0 := eq_true c16
         have c16b1 : decide (0 ≤ (ji15)) = true := decide_eq_true c16
         clear c16
         obtain ⟨ji17, hji17⟩ : ∃ j_ : Int, (shl .i64 1 (ji15)) = j_ := ⟨_, rfl⟩
         replace H : (some (decide (t257 < (ji17)))) = some r := by first | (rw [hji17] at H; exact H) | (simp only [hji17] at H ⊢; exact H)
         (try rw [hji17] at A4)
         (try rw [hji17] at A13)
         have hji17_ : (IntKind.i64.wrap (1 * 2 ^ min (ji15).toNat 64)) = ji17 := hji17
         have hji17z : (ji15) ≤ 64 → (IntKind.i64.wrap (1 * 2 ^ (ji15).toNat)) = ji17 := shl_small hji17
         have hji17u : (IntKind.i64.wrap (2 ^ min (ji15).toNat 64)) = ji17 := by have h_ := hji17_; rw [Int.one_mul] at h_; exact h_
         have hji17v : (ji15) ≤ 64 → (IntKind.i64.wrap (2 ^ (ji15).toNat)) = ji17 := fun hle_ => by have h_ := hji17z hle_; rw [Int.one_mul] at h_; exact h_
         have hji17y : (wrap64 (1 * 2 ^ min (ji15).toNat 64)) = ji17 := (i64_w _).symm.trans hji17_
         have hji17x : (ji15) ≤ 64 → (wrap64 (1 * 2 ^ (ji15).toNat)) = ji17 := fun h_ => (i64_w _).symm.trans (hji17z h_)
         obtain rfl := Option.some.inj H
         go_enter Try.func73, Try.ntmps73
         go_wp2_with (first | ((with_reducible refine gate_callee (f := 66) rfl ?_); refine goesL_ (some 9) rfl rfl Try.func66 (by kernel_rfl) rfl #[.int .i64 a2] rfl (by (try simp only [List.map_toArray, List.map_cons, List.map_nil]); first | done | rfl | (simp only [List.length_drop, List.length_take]; rfl)) ?_; (with_reducible refine (wrap_good.calls a2 true _ A4.out).mono ?_); rintro e w' ⟨rfl, ⟨nd, rfl⟩⟩; refine ⟨_, rfl, ?_⟩) | ((with_reducible refine gate_callee (f := 69) rfl ?_); refine goesL_ (some 35) rfl rfl Try.func69 (by kernel_rfl) rfl #[.int .i64 (wrap64 (a0 - a1)), .int .i64 a2] rfl (by (try simp only [List.map_toArray, List.map_cons, List.map_nil]); first | done | rfl | (simp only [List.length_drop, List.length_take]; rfl)) ?_; (with_reducible refine (wrap_lower_int.calls (wrap64 (a0 - a1)) a2 t257 _ A13.out).mono ?_); rintro e w' ⟨rfl, ⟨nd, rfl⟩⟩; refine ⟨_, rfl, ?_⟩))
         go_ret
         exact ⟨by first | rfl | (simp; done) | (simp only [← hji9, ← hji15, ← hji17] <;> (first | rfl | simp)) | (simp [*]; done), by repeat (first | exact Drawn0.refl _ | apply Drawn0.step)⟩
        ·rw [if_neg c16] at H
         exact absurd H (by simp)
       ·rw [if_neg c14] at H
        have c14b0 : decide (1 ≤ t257) = false := decide_eq_false c14
        clear c14
        obtain rfl := Option.some.inj H
        go_enter Try.func73, Try.ntmps73
        go_wp2_with (first | ((with_reducible refine gate_callee (f := 66) rfl ?_); refine goesL_ (some 9) rfl rfl Try.func66 (by kernel_rfl) rfl #[.int .i64 a2] rfl (by (try simp only [List.map_toArray, List.map_cons, List.map_nil]); first | done | rfl | (simp only [List.length_drop, List.length_take]; rfl)) ?_; (with_reducible refine (wrap_good.calls a2 true _ A4.out).mono ?_); rintro e w' ⟨rfl, ⟨nd, rfl⟩⟩; refine ⟨_, rfl, ?_⟩) | ((with_reducible refine gate_callee (f := 69) rfl ?_); refine goesL_ (some 35) rfl rfl Try.func69 (by kernel_rfl) rfl #[.int .i64 (wrap64 (a0 - a1)), .int .i64 a2] rfl (by (try simp only [List.map_toArray, List.map_cons, List.map_nil]); first | done | rfl | (simp only [List.length_drop, List.length_take]; rfl)) ?_; (with_reducible refine (wrap_lower_int.calls (wrap64 (a0 - a1)) a2 t257 _ A13.out).mono ?_); rintro e w' ⟨rfl, ⟨nd, rfl⟩⟩; refine ⟨_, rfl, ?_⟩))
        go_ret
        exact ⟨by first | rfl | (simp; done) | (simp only [← hji9] <;> (first | rfl | simp)) | (simp [*]; done), by repeat (first | exact Drawn0.refl _ | apply Drawn0.step)⟩
    ·rw [if_neg c8] at H
     exact absurd H (by simp)
 ·replace c5 := Bool.eq_false_iff.mpr c5
  subst c5
  have H1 : (some false) = some r := by rw [if_neg (show ¬ (false = true) by decide)] at H; exact H
  clear H
  have H := H1
  clear H1
  obtain rfl := Option.some.inj H
  go_enter Try.func73, Try.ntmps73
  go_wp2_with (first | ((with_reducible refine gate_callee (f := 66) rfl ?_); refine goesL_ (some 9) rfl rfl Try.func66 (by kernel_rfl) rfl #[.int .i64 a2] rfl (by (try simp only [List.map_toArray, List.map_cons, List.map_nil]); first | done | rfl | (simp only [List.length_drop, List.length_take]; rfl)) ?_; (with_reducible refine (wrap_good.calls a2 false _ A4.out).mono ?_); rintro e w' ⟨rfl, ⟨nd, rfl⟩⟩; refine ⟨_, rfl, ?_⟩))
  go_ret
  exact ⟨by first | rfl | (simp; done) | (simp [*]; done), by repeat (first | exact Drawn0.refl _ | apply Drawn0.step)⟩
def wrap_After.f (a0 : Int) (a1 : Int) (a2 : Int) : Option (Bool) := if a2 = 16 then (some (B.after16 a0 a1)) else (none)
theorem wrap_After.told (a0 a1 : Int) : wrap_After_p.f a0 a1 16 = some (B.after16 a0 a1) := by
 have e : shl .i64 1 16 = 65536 := by rfl
 have e15 : shl .i64 1 (wrap64 (16 - 1)) = 32768 := by rw [show wrap64 (16 - 1) = 15 from by unfold wrap64; omega]; rfl
 have e16 : wrap64 (65536 - 1) = 65535 := by unfold wrap64; omega
 have e17 : (0 : Int) ≤ wrap64 (16 - 1) := by unfold wrap64; omega
 have e18 : (0 : Int) ≤ wrap64 15 := by unfold wrap64; omega
 unfold wrap_After_p.f wrap_good.f wrap_lower_int.f B.after16
 rw [e, e15, e16]
 by_cases h1 : a0 < 0
 ·have h1' : ¬ 0 ≤ a0 := by omega
  simp [h1, h1']
 have h1' : 0 ≤ a0 := by omega
 by_cases h2 : a1 < 0
 ·have h2' : ¬ 0 ≤ a1 := by omega
  simp [h1, h2, h2']
 have h2' : 0 ≤ a1 := by omega
 by_cases h3 : 65536 ≤ a0
 ·have h3' : ¬ a0 < 65536 := by omega
  simp [h1, h2, h3, h3']
 have h3' : a0 < 65536 := by omega
 by_cases h4 : 65536 ≤ a1
 ·have h4' : ¬ a1 < 65536 := by omega
  simp [h1, h2, h3, h4, h4']
 have h4' : a1 < 65536 := by omega
 have hw : wrap64 (a0 - a1) = a0 - a1 := by unfold wrap64; omega
 rw [hw, B.and_65535]
 by_cases h5 : (a0 - a1) % 65536 ≥ 1
 ·have h5' : 1 ≤ (a0 - a1) % 65536 := h5
  simp [h1, h2, h3, h4, h5, h1', h2', h3', h4', h5', e18]
 ·have h5' : ¬ 1 ≤ (a0 - a1) % 65536 := h5
  simp [h1, h2, h3, h4, h5, h1', h2', h3', h4', h5']
theorem wrap_After.calls (a0 : Int) (a1 : Int) (a2 : Int) (r : Bool) (w : World) (h : wrap_After.f a0 a1 a2 = some r) :
  Calls Try.prog 73 #[.int .i64 a0, .int .i64 a1, .int .i64 a2] w fun e w' => e = .returned (.bool r) ∧ Drawn0 w w' := by
 unfold wrap_After.f at h
 by_cases h2 : a2 = 16
 ·subst h2
  rw [if_pos rfl] at h
  exact wrap_After_p.calls a0 a1 16 r w ((wrap_After.told a0 a1).trans h)
 ·rw [if_neg h2] at h; cases h
def nack_fault_p.l0 : Nat → List Int → List Int → Int → Int → Option (Int)
 | 0, _, _, _, _ => none
 | k + 1, x0, x8, x9, x10 => if x10 < x9 then (if 0 ≤ x10 then (if x10 < (x8.length : Int) then (if (rd x8 x10) < 0 then (some 110) else (if (rd x8 x10) > 65535 then (some 110) else (if x10 > 0 then (if 0 ≤ (wrap64 (x10 - 1)) then (if (wrap64 (x10 - 1)) < (x0.length : Int) then ((wrap_After.f (rd x8 x10) (rd x0 (wrap64 (x10 - 1))) 16).bind fun t260 => (if t260 = true then (if 0 < (x0.length : Int) then ((wrap_After.f (rd x8 x10) (rd x0 0) 16).bind fun t262 => (if t262 = true then (nack_fault_p.l0 k x0 x8 x9 (wrap64 (x10 + 1))) else (some 110))) else (none)) else (some 110))) else (none)) else (none)) else (nack_fault_p.l0 k x0 x8 x9 (wrap64 (x10 + 1)))))) else (none)) else (none)) else (if (x0.length : Int) = 0 then (some 110) else (some 0))
def nack_fault_p.f (k : Nat) (l0 : List Int) : Option (Int) := if (l0.length : Int) > 4096 then (some 3) else (nack_fault_p.l0 k l0 l0 (l0.length : Int) 0)
theorem nack_fault_p.mono_l : ∀ k, (∀ y0 y1 y2 y3, LeO (nack_fault_p.l0 k y0 y1 y2 y3) (nack_fault_p.l0 (k + 1) y0 y1 y2 y3))
 | 0 => fun _ _ _ _ r h => by simp [nack_fault_p.l0] at h
 | k + 1 => by
  have ih0 := nack_fault_p.mono_l k
  ·intro y0 y1 y2 y3
   unfold nack_fault_p.l0
   repeat' first
   | (with_reducible exact ih0 _ _ _ _)
   | (with_reducible exact LeO.refl _)
   | (with_reducible exact LeO.none _)
   | (with_reducible refine LeO.ite ?_ ?_)
   | (with_reducible refine LeO.bind ?_ (fun _ => ?_))
   | exact ih0 _ _ _ _
   | exact LeO.none _
   | refine LeO.ite ?_ ?_
   | refine LeO.bind ?_ (fun _ => ?_)
theorem nack_fault_p.mono : ∀ a0 k, LeO (nack_fault_p.f k a0) (nack_fault_p.f (k + 1) a0) := by
 intro a0 k
 have ih0 := nack_fault_p.mono_l k
 unfold nack_fault_p.f
 repeat' first
   | (with_reducible exact ih0 _ _ _ _)
   | (with_reducible exact LeO.refl _)
   | (with_reducible exact LeO.none _)
   | (with_reducible refine LeO.ite ?_ ?_)
   | (with_reducible refine LeO.bind ?_ (fun _ => ?_))
   | exact ih0 _ _ _ _
   | exact LeO.none _
   | refine LeO.ite ?_ ?_
   | refine LeO.bind ?_ (fun _ => ?_)
set_option maxHeartbeats 8000000 in
set_option maxRecDepth 100000 in
theorem nack_fault_p.calls (k : Nat) (A0 : Option Addr) (c0 : Nat) (l0 : List Int) (r : Int) (w : World) (hr0 : Kd.C (Kd.int .i64) w A0 l0.length l0) (hc0 : l0.length ≤ c0) (h : nack_fault_p.f k l0 = some r) :
  Calls Try.prog 64 #[.slice A0 l0.length c0] w fun e w' => e = .returned (.int .i64 r) ∧ Drawn0 w w' := by
 have HR0 := Aside0.mk hr0
 have HC0 := Aside0.mk hc0
 clear hr0 hc0
 have H : (if (l0.length : Int) > 4096 then (some 3) else (nack_fault_p.l0 k l0 l0 (l0.length : Int) 0)) = some r := h
 clear h
 by_cases c2 : (l0.length : Int) > 4096
 ·rw [if_pos c2] at H
  have c2b0 : decide (4096 < (l0.length : Int)) = true := decide_eq_true c2
  have c2b1 : decide (4096 < l0.length) = true := decide_eq_true (by omega)
  clear c2
  obtain rfl := Option.some.inj H
  go_enter Try.func64, Try.ntmps64
  go_wp2
  go_ret
  exact ⟨by first | rfl | (simp; done) | (simp [*]; done), by repeat (first | exact Drawn0.refl _ | apply Drawn0.step)⟩
 ·rw [if_neg c2] at H
  have c2b0 : decide (4096 < (l0.length : Int)) = false := decide_eq_false c2
  have c2b1 : decide (4096 < l0.length) = false := decide_eq_false (by omega)
  clear c2
  have H' := Aside0.mk H
  clear H
  go_enter Try.func64, Try.ntmps64
  go_wp2
  go_loopg [10] k (fun kq v10 w' => ∃ (x10_1 : Int), v10 = .int .i64 x10_1 ∧ Aside0 (nack_fault_p.l0 kq l0 l0 (l0.length : Int) x10_1 = some r) ∧ Aside0 (kq ≤ k) ∧ Drawn0 w w')
  case atStart => exact ⟨(0), (by first | rfl | (simp; done) | (simp [*]; done)), H', ⟨Nat.le_refl _⟩, by repeat (first | exact Drawn0.refl _ | apply Drawn0.step)⟩
  case round =>
   clear H'
   try clear c2
   try clear c2b0
   try clear c2b1
   try clear p2
   obtain ⟨x10_1, rfl, HA, HK1, ⟨m1, rfl⟩⟩ := hrel
   cases gk with
   | zero => exact absurd HA.out (by simp [nack_fault_p.l0])
   | succ k1 =>
    have H := HA.out
    clear HA
    simp only [nack_fault_p.l0] at H
    by_cases c3 : x10_1 < (l0.length : Int)
    ·rw [if_pos c3] at H
     have c3b0 : decide (x10_1 < (l0.length : Int)) = true := decide_eq_true c3
     clear c3
     by_cases c4 : 0 ≤ x10_1
     ·rw [if_pos c4] at H
      have c4b0 : decide (0 ≤ x10_1) = true := decide_eq_true c4
      clear c4
      by_cases c5 : x10_1 < (l0.length : Int)
      ·rw [if_pos c5] at H
       have c5b0 : decide (x10_1 < (l0.length : Int)) = true := decide_eq_true c5
       clear c5
       by_cases c6 : (rd l0 x10_1) < 0
       ·rw [if_pos c6] at H
        have c6b0 : decide ((rd l0 x10_1) < 0) = true := decide_eq_true c6
        clear c6
        obtain rfl := Option.some.inj H
        have p258 : 0 ≤ (x10_1 : Int) := of_decide_eq_true (by first | (with_reducible assumption) | assumption)
        have q258 : x10_1 < (l0.length : Int) := of_decide_eq_true (by first | (with_reducible assumption) | assumption)
        obtain ⟨ad258, e258, hx258_0⟩ := Kd.at_int HR0.out x10_1 p258 q258
        cases e258
        replace p258 := eq_true p258
        replace q258 := eq_true q258
        go_wp2
        go_ret
        exact ⟨by first | rfl | (simp; done) | (simp [*]; done), by repeat (first | exact Drawn0.refl _ | apply Drawn0.step)⟩
       ·rw [if_neg c6] at H
        have c6b0 : decide ((rd l0 x10_1) < 0) = false := decide_eq_false c6
        clear c6
        by_cases c7 : (rd l0 x10_1) > 65535
        ·rw [if_pos c7] at H
         have c7b0 : decide (65535 < (rd l0 x10_1)) = true := decide_eq_true c7
         clear c7
         obtain rfl := Option.some.inj H
         have p258 : 0 ≤ (x10_1 : Int) := of_decide_eq_true (by first | (with_reducible assumption) | assumption)
         have q258 : x10_1 < (l0.length : Int) := of_decide_eq_true (by first | (with_reducible assumption) | assumption)
         obtain ⟨ad258, e258, hx258_0⟩ := Kd.at_int HR0.out x10_1 p258 q258
         cases e258
         replace p258 := eq_true p258
         replace q258 := eq_true q258
         go_wp2
         go_ret
         exact ⟨by first | rfl | (simp; done) | (simp [*]; done), by repeat (first | exact Drawn0.refl _ | apply Drawn0.step)⟩
        ·rw [if_neg c7] at H
         have c7b0 : decide (65535 < (rd l0 x10_1)) = false := decide_eq_false c7
         clear c7
         by_cases c8 : x10_1 > 0
         ·rw [if_pos c8] at H
          have c8b0 : decide (0 < x10_1) = true := decide_eq_true c8
          clear c8
          obtain ⟨ji9, hji9⟩ : ∃ j_ : Int, (wrap64 (x10_1 - 1)) = j_ := ⟨_, rfl⟩
          replace H : (if 0 ≤ (ji9) then (if (ji9) < (l0.length : Int) then ((wrap_After.f (rd l0 x10_1) (rd l0 (ji9)) 16).bind fun t260 => (if t260 = true then (if 0 < (l0.length : Int) then ((wrap_After.f (rd l0 x10_1) (rd l0 0) 16).bind fun t262 => (if t262 = true then (nack_fault_p.l0 k1 l0 l0 (l0.length : Int) (wrap64 (x10_1 + 1))) else (some 110))) else (none)) else (some 110))) else (none)) else (none)) = some r := by first | (rw [hji9] at H; exact H) | (simp only [hji9] at H ⊢; exact H)
          have hji9w : (IntKind.i64.wrap (x10_1 - 1)) = ji9 := (i64_w _).trans hji9
          by_cases c10 : 0 ≤ (ji9)
          ·rw [if_pos c10] at H
           have c10b0 : decide (0 ≤ (ji9)) = true := decide_eq_true c10
           clear c10
           by_cases c11 : (ji9) < (l0.length : Int)
           ·rw [if_pos c11] at H
            have c11b0 : decide ((ji9) < (l0.length : Int)) = true := decide_eq_true c11
            clear c11
            replace H := Option.bind_eq_some_iff.mp H
            obtain ⟨t260, A120, H⟩ := H
            replace H : (if t260 = true then (if 0 < (l0.length : Int) then ((wrap_After.f (rd l0 x10_1) (rd l0 0) 16).bind fun t262 => (if t262 = true then (nack_fault_p.l0 k1 l0 l0 (l0.length : Int) (wrap64 (x10_1 + 1))) else (some 110))) else (none)) else (some 110)) = some r := H
            have A12 := Aside0.mk A120
            clear A120
            by_cases c13 : t260 = true
            ·subst c13
             have H1 : (if 0 < (l0.length : Int) then ((wrap_After.f (rd l0 x10_1) (rd l0 0) 16).bind fun t262 => (if t262 = true then (nack_fault_p.l0 k1 l0 l0 (l0.length : Int) (wrap64 (x10_1 + 1))) else (some 110))) else (none)) = some r := by rw [if_pos rfl] at H; exact H
             clear H
             have H := H1
             clear H1
             by_cases c14 : 0 < (l0.length : Int)
             ·rw [if_pos c14] at H
              have c14b0 : decide (0 < (l0.length : Int)) = true := decide_eq_true c14
              have c14b1 : decide (0 < l0.length) = true := decide_eq_true (by omega)
              clear c14
              replace H := Option.bind_eq_some_iff.mp H
              obtain ⟨t262, A150, H⟩ := H
              replace H : (if t262 = true then (nack_fault_p.l0 k1 l0 l0 (l0.length : Int) (wrap64 (x10_1 + 1))) else (some 110)) = some r := H
              have A15 := Aside0.mk A150
              clear A150
              by_cases c16 : t262 = true
              ·subst c16
               have H1 : (nack_fault_p.l0 k1 l0 l0 (l0.length : Int) (wrap64 (x10_1 + 1))) = some r := by rw [if_pos rfl] at H; exact H
               clear H
               have H := H1
               clear H1
               have H' := Aside0.mk H
               clear H
               have p258 : 0 ≤ (x10_1 : Int) := of_decide_eq_true (by first | (with_reducible assumption) | assumption)
               have q258 : x10_1 < (l0.length : Int) := of_decide_eq_true (by first | (with_reducible assumption) | assumption)
               obtain ⟨ad258, e258, hx258_0⟩ := Kd.at_int HR0.out x10_1 p258 q258
               cases e258
               replace p258 := eq_true p258
               replace q258 := eq_true q258
               have p259 : 0 ≤ ((ji9) : Int) := of_decide_eq_true (by first | (with_reducible assumption) | assumption)
               have q259 : (ji9) < (l0.length : Int) := of_decide_eq_true (by first | (with_reducible assumption) | assumption)
               obtain ⟨ad259, e259, hx259_0⟩ := Kd.at_int HR0.out (ji9) p259 q259
               obtain rfl : ad258 = ad259 := (by injection e259)
               replace p259 := eq_true p259
               replace q259 := eq_true q259
               go_wp2_with (first | (go_at_call 73; (with_reducible refine (wrap_After.calls (rd l0 x10_1) (rd l0 (ji9)) 16 true _ A12.out).mono ?_); rintro e w' ⟨rfl, ⟨nd, rfl⟩⟩; have p261 : 0 ≤ (0 : Int) := (by omega); have q261 : 0 < (l0.length : Int) := of_decide_eq_true (by first | (with_reducible assumption) | assumption); obtain ⟨ad261, e261, hx261_0⟩ := Kd.at_int HR0.out 0 p261 q261; obtain rfl : ad258 = ad261 := (by injection e261); have qi261 : (0 < l0.length) = True := eq_true (by omega); (try rw [show ((0 : Int)).toNat = 0 from rfl] at hx261_0); (try rw [Addr.add_zero'] at hx261_0); replace p261 := eq_true p261; replace q261 := eq_true q261) | (go_at_call 73; (with_reducible refine (wrap_After.calls (rd l0 x10_1) (rd l0 0) 16 true _ A15.out).mono ?_); rintro e w' ⟨rfl, ⟨nd, rfl⟩⟩))
               go_roundg k1
               case measure => have := HK1.out; omega
               case rel => exact ⟨(wrap64 (x10_1 + 1)), (by first | rfl | (simp; done) | (simp [*]; done)), H', ⟨by have := HK1.out; omega⟩, by repeat (first | exact Drawn0.refl _ | apply Drawn0.step)⟩
              ·replace c16 := Bool.eq_false_iff.mpr c16
               subst c16
               have H1 : (some 110) = some r := by rw [if_neg (show ¬ (false = true) by decide)] at H; exact H
               clear H
               have H := H1
               clear H1
               obtain rfl := Option.some.inj H
               have p258 : 0 ≤ (x10_1 : Int) := of_decide_eq_true (by first | (with_reducible assumption) | assumption)
               have q258 : x10_1 < (l0.length : Int) := of_decide_eq_true (by first | (with_reducible assumption) | assumption)
               obtain ⟨ad258, e258, hx258_0⟩ := Kd.at_int HR0.out x10_1 p258 q258
               cases e258
               replace p258 := eq_true p258
               replace q258 := eq_true q258
               have p259 : 0 ≤ ((ji9) : Int) := of_decide_eq_true (by first | (with_reducible assumption) | assumption)
               have q259 : (ji9) < (l0.length : Int) := of_decide_eq_true (by first | (with_reducible assumption) | assumption)
               obtain ⟨ad259, e259, hx259_0⟩ := Kd.at_int HR0.out (ji9) p259 q259
               obtain rfl : ad258 = ad259 := (by injection e259)
               replace p259 := eq_true p259
               replace q259 := eq_true q259
               go_wp2_with (first | (go_at_call 73; (with_reducible refine (wrap_After.calls (rd l0 x10_1) (rd l0 (ji9)) 16 true _ A12.out).mono ?_); rintro e w' ⟨rfl, ⟨nd, rfl⟩⟩; have p261 : 0 ≤ (0 : Int) := (by omega); have q261 : 0 < (l0.length : Int) := of_decide_eq_true (by first | (with_reducible assumption) | assumption); obtain ⟨ad261, e261, hx261_0⟩ := Kd.at_int HR0.out 0 p261 q261; obtain rfl : ad258 = ad261 := (by injection e261); have qi261 : (0 < l0.length) = True := eq_true (by omega); (try rw [show ((0 : Int)).toNat = 0 from rfl] at hx261_0); (try rw [Addr.add_zero'] at hx261_0); replace p261 := eq_true p261; replace q261 := eq_true q261) | (go_at_call 73; (with_reducible refine (wrap_After.calls (rd l0 x10_1) (rd l0 0) 16 false _ A15.out).mono ?_); rintro e w' ⟨rfl, ⟨nd, rfl⟩⟩))
               go_ret
               exact ⟨by first | rfl | (simp; done) | (simp only [← hji9] <;> (first | rfl | simp)) | (simp [*]; done), by repeat (first | exact Drawn0.refl _ | apply Drawn0.step)⟩
             ·rw [if_neg c14] at H
              exact absurd H (by simp)
            ·replace c13 := Bool.eq_false_iff.mpr c13
             subst c13
             have H1 : (some 110) = some r := by rw [if_neg (show ¬ (false = true) by decide)] at H; exact H
             clear H
             have H := H1
             clear H1
             obtain rfl := Option.some.inj H
             have p258 : 0 ≤ (x10_1 : Int) := of_decide_eq_true (by first | (with_reducible assumption) | assumption)
             have q258 : x10_1 < (l0.length : Int) := of_decide_eq_true (by first | (with_reducible assumption) | assumption)
             obtain ⟨ad258, e258, hx258_0⟩ := Kd.at_int HR0.out x10_1 p258 q258
             cases e258
             replace p258 := eq_true p258
             replace q258 := eq_true q258
             have p259 : 0 ≤ ((ji9) : Int) := of_decide_eq_true (by first | (with_reducible assumption) | assumption)
             have q259 : (ji9) < (l0.length : Int) := of_decide_eq_true (by first | (with_reducible assumption) | assumption)
             obtain ⟨ad259, e259, hx259_0⟩ := Kd.at_int HR0.out (ji9) p259 q259
             obtain rfl : ad258 = ad259 := (by injection e259)
             replace p259 := eq_true p259
             replace q259 := eq_true q259
             go_wp2_with (first | (go_at_call 73; (with_reducible refine (wrap_After.calls (rd l0 x10_1) (rd l0 (ji9)) 16 false _ A12.out).mono ?_); rintro e w' ⟨rfl, ⟨nd, rfl⟩⟩))
             go_ret
             exact ⟨by first | rfl | (simp; done) | (simp only [← hji9] <;> (first | rfl | simp)) | (simp [*]; done), by repeat (first | exact Drawn0.refl _ | apply Drawn0.step)⟩
           ·rw [if_neg c11] at H
            exact absurd H (by simp)
          ·rw [if_neg c10] at H
           exact absurd H (by simp)
         ·rw [if_neg c8] at H
          have c8b0 : decide (0 < x10_1) = false := decide_eq_false c8
          clear c8
          have H' := Aside0.mk H
          clear H
          have p258 : 0 ≤ (x10_1 : Int) := of_decide_eq_true (by first | (with_reducible assumption) | assumption)
          have q258 : x10_1 < (l0.length : Int) := of_decide_eq_true (by first | (with_reducible assumption) | assumption)
          obtain ⟨ad258, e258, hx258_0⟩ := Kd.at_int HR0.out x10_1 p258 q258
          cases e258
          replace p258 := eq_true p258
          replace q258 := eq_true q258
          go_wp2
          go_roundg k1
          case measure => have := HK1.out; omega
          case rel => exact ⟨(wrap64 (x10_1 + 1)), (by first | rfl | (simp; done) | (simp [*]; done)), H', ⟨by have := HK1.out; omega⟩, by repeat (first | exact Drawn0.refl _ | apply Drawn0.step)⟩
      ·rw [if_neg c5] at H
       exact absurd H (by simp)
     ·rw [if_neg c4] at H
      exact absurd H (by simp)
    ·rw [if_neg c3] at H
     have c3b0 : decide (x10_1 < (l0.length : Int)) = false := decide_eq_false c3
     clear c3
     by_cases c17 : (l0.length : Int) = 0
     ·rw [if_pos c17] at H
      have c17b0 : ((l0.length : Int) == 0) = true := beq_iff_eq.mpr c17
      have c17b1 : ((l0.length : Int) != 0) = false := bne_eq_false_iff_eq.mpr c17
      clear c17
      obtain rfl := Option.some.inj H
      go_wp2
      go_ret
      exact ⟨by first | rfl | (simp; done) | (simp [*]; done), by repeat (first | exact Drawn0.refl _ | apply Drawn0.step)⟩
     ·rw [if_neg c17] at H
      have c17b0 : ((l0.length : Int) == 0) = false := beq_eq_false_iff_ne.mpr c17
      have c17b1 : ((l0.length : Int) != 0) = true := bne_iff_ne.mpr c17
      have c17b2 : ¬ (l0 = []) := fun h_ => c17 (by rw [h_]; rfl)
      obtain rfl := Option.some.inj H
      go_wp2
      go_ret
      exact ⟨by first | rfl | (simp; done) | (simp [*]; done), by repeat (first | exact Drawn0.refl _ | apply Drawn0.step)⟩
def nack_fault.f (l0 : List Int) : Option (Int) := some (if 4096 < l0.length then 3 else if B.goodB l0 = true then 0 else 110)
theorem rd_at (l : List Int) (i : Nat) (h : i < l.length) : rd l (i : Int) = l[i] := by simp [rd, List.getD_eq_getElem?_getD, List.getElem?_eq_getElem h]
theorem nack_fault.loop (l : List Int) (hn : l.length ≤ 4096) (h0 : 0 < l.length) (d : Nat) : ∀ (k i : Nat), 1 ≤ i → i ≤ l.length → l.length - i = d → d < k →
  nack_fault_p.l0 k l l (l.length : Int) (i : Int) = some (if B.goodTail (l.getD 0 0) (l.getD (i - 1) 0) (l.drop i) = true then 0 else 110) := by
 induction d with
 | zero =>
  intro k i h1 h2 hd hk
  obtain ⟨k, rfl⟩ : ∃ m, k = m + 1 := ⟨k - 1, by omega⟩
  have hi : i = l.length := by omega
  subst hi
  simp only [nack_fault_p.l0]
  rw [if_neg (by omega), if_neg (by omega), List.drop_length]
  simp [B.goodTail]
 | succ d ih =>
  intro k i h1 h2 hd hk
  obtain ⟨k, rfl⟩ : ∃ m, k = m + 1 := ⟨k - 1, by omega⟩
  have hlt : i < l.length := by omega
  have hr := rd_at l i hlt
  have hw : wrap64 ((i : Int) - 1) = ((i - 1 : Nat) : Int) := by unfold wrap64; omega
  have hw1 : wrap64 ((i : Int) + 1) = ((i + 1 : Nat) : Int) := by unfold wrap64; omega
  have hrm := rd_at l (i - 1) (by omega)
  have hr0 := rd_at l 0 h0
  have ih' := ih k (i + 1) (by omega) (by omega) (by omega) (by omega)
  rw [show i + 1 - 1 = i by omega] at ih'
  rw [List.drop_eq_getElem_cons hlt]
  have g0 : l.getD 0 0 = l[0] := by simp [List.getD_eq_getElem?_getD, List.getElem?_eq_getElem h0]
  have gi : l.getD i 0 = l[i] := by simp [List.getD_eq_getElem?_getD, List.getElem?_eq_getElem hlt]
  have gm : l.getD (i - 1) 0 = l[i - 1] := by simp [List.getD_eq_getElem?_getD, List.getElem?_eq_getElem (show i - 1 < l.length by omega)]
  rw [gi] at ih'
  simp only [nack_fault_p.l0]
  rw [if_pos (by omega), if_pos (by omega), if_pos (by omega), hr]
  have hr0' : rd l 0 = l[0] := hr0
  simp only [hw, hw1, hrm]
  rw [hr0', ih', g0, gm]
  simp only [B.goodTail, wrap_After.f, if_true, Option.bind_some]
  by_cases c1 : l[i] < 0
  ·rw [if_pos c1]
   have : B.after16 l[i] l[i - 1] = false := by rw [← Bool.not_eq_true, B.after16_iff]; omega
   simp [this]
  rw [if_neg c1]
  by_cases c2 : l[i] > 65535
  ·rw [if_pos c2]
   have : B.after16 l[i] l[i - 1] = false := by rw [← Bool.not_eq_true, B.after16_iff]; omega
   simp [this]
  rw [if_neg c2, if_pos (by omega), if_pos (by omega), if_pos (by omega), if_pos (show (0 : Int) < (l.length : Int) by omega)]
  rcases Bool.eq_false_or_eq_true (B.after16 l[i] l[i - 1]) with e1 | e1 <;> rcases Bool.eq_false_or_eq_true (B.after16 l[i] l[0]) with e2 | e2 <;> simp [e1, e2]
theorem nack_fault.told (l : List Int) : nack_fault_p.f (l.length + 2) l = some (if 4096 < l.length then 3 else if B.goodB l = true then 0 else 110) := by
 unfold nack_fault_p.f
 by_cases h : l.length > 4096
 ·rw [if_pos (by omega), if_pos h]
 rw [if_neg (by omega), if_neg h]
 cases l with
 | nil => simp [nack_fault_p.l0, B.goodB]
 | cons n t =>
  have hl := nack_fault.loop (n :: t) (by simp at h ⊢; omega) (by simp) t.length (t.length + 2) 1 (by omega) (by simp) (by simp) (by omega)
  simp only [List.length_cons] at h hl ⊢
  rw [show t.length + 1 + 2 = (t.length + 2) + 1 by omega]
  obtain ⟨K, hK⟩ : ∃ K, t.length + 2 = K := ⟨_, rfl⟩
  rw [hK] at hl ⊢
  simp only [nack_fault_p.l0]
  have hr0 : rd (n :: t) 0 = n := rfl
  have hw1 : wrap64 ((0 : Int) + 1) = ((1 : Nat) : Int) := by unfold wrap64; omega
  rw [if_pos (by omega), if_pos (by omega), if_pos (by simp), hr0, hw1, hl]
  simp only [B.goodB, List.getD_cons_zero, Nat.sub_self, List.drop_succ_cons, List.drop_zero]
  by_cases c1 : n < 0
  ·rw [if_pos c1]; simp [show ¬ 0 ≤ n by omega]
  rw [if_neg c1]
  by_cases c2 : n > 65535
  ·rw [if_pos c2]; simp [show ¬ n ≤ 65535 by omega]
  rw [if_neg c2, if_neg (by omega)]
  simp [show 0 ≤ n by omega, show n ≤ 65535 by omega, show t.length < 4096 by omega]
theorem nack_fault.calls (A0 : Option Addr) (c0 : Nat) (l0 : List Int) (r : Int) (w : World) (hr0 : Kd.C (Kd.int .i64) w A0 l0.length l0) (hc0 : l0.length ≤ c0) (h : nack_fault.f l0 = some r) :
  Calls Try.prog 64 #[.slice A0 l0.length c0] w fun e w' => e = .returned (.int .i64 r) ∧ Drawn0 w w' :=
 nack_fault_p.calls (l0.length + 2) A0 c0 l0 r w hr0 hc0 ((nack_fault.told l0).trans h)
def nack_Decode.f (a0 : ByteArray) : Option (Int × Int × List Int × Int) := if a0.size ≤ 1000000000000000000 then (some (B.nackDec a0)) else (none)
def DecI (w : World) (s : ByteArray) (b r o : Nat) (S M : Int) (a : Int) (xs : List Int) (wr : World) : Prop :=
 B.RdIs wr r 146 s a false ∧ wr.heap[b]? = some (.cells #[.int .u32 0, .int .u32 0, .slice none 0 0] 83) ∧
  (∃ v, wr.heap[o]? = some (.cells #[.int .u32 S, .int .u32 M, v] 83) ∧ wr.ownsRow (o + 1) 3 1 v xs.length (nums .i64 xs)) ∧ Below b w wr
def DecJ (w : World) (s : ByteArray) (b r o : Nat) (S M a : Int) (xs : List Int) (f m : Nat) (a' : Act) (w' : World) : Prop :=
 ∃ (i : Nat) (q33 q34 q35 q36 q37 q38 q39 q40 q41 q42 q43 q44 q45 q46 q47 q48 q49 q50 q51 q52 q53 q54 q55 q56 q57 q58 q59 q60 q61 q62 q63 q64 q65 : Value), a' = { tmps := #[.string s, undef, .pointer (some ⟨b, 0, none⟩), .int .i64 0, .pointer (some ⟨r, 0, none⟩), .pointer (some ⟨o, 0, none⟩), .int .i64 (f : Int), .int .u32 (m : Int), .int .i64 (i : Int), undef, .bool false, .string s, .int .i64 (s.size : Int), .bool false, undef, .bool false, .string s, .int .i64 (s.size : Int), .int .i64 ((s.size : Int) % 4), .bool false, undef, .bool false, .string s, .int .i64 (s.size : Int), .bool false, undef, .string s, .pointer (some ⟨r, 0, none⟩), .pointer (some ⟨r, 0, none⟩), .int .u32 S, .pointer (some ⟨r, 0, none⟩), .int .u32 M, .agg #[.int .u32 S, .int .u32 M, .slice none 0 0], q33, q34, q35, q36, q37, q38, q39, q40, q41, q42, q43, q44, q45, q46, q47, q48, q49, q50, q51, q52, q53, q54, q55, q56, q57, q58, q59, q60, q61, q62, q63, q64, q65, undef, undef, undef, undef, undef, undef, undef, undef], defers := [] } ∧ i ≤ 15 ∧ DecI w s b r o S M a (xs ++ B.lostPart f m i) w'
theorem info_int : (Try.prog.info? 3).map (fun i => (i.zero, i.size, i.bytes)) = some (some (.int .i64 0), 1, 8) := by kernel_rfl
theorem dec_step {w w10 : World} {s : ByteArray} {b r o : Nat} {S M A : Int} {Z : List Int} {v v10 : Value} (hbr : b < r) (hro : r < o) (hR : B.RdIs w10 r 146 s A false) (hZ : w10.heap[b]? = some (.cells #[.int .u32 0, .int .u32 0, .slice none 0 0] 83))
  (hO : w10.heap[o]? = some (.cells #[.int .u32 S, .int .u32 M, v] 83)) (HOW : w10.ownsRow (o + 1) 3 1 v10 Z.length (nums .i64 Z)) (hB : Below b w w10) : DecI w s b r o S M A Z (w10.setCell ⟨o, 2, none⟩ v10) := by
 refine ⟨blk_far hR (by show r ≠ o; omega) _, blk_far hZ (by show b ≠ o; omega) _, ⟨v10, ?_, own_setCell HOW (p := ⟨o, 2, none⟩) (fun e => by have := own_base HOW o e.symm; omega) _⟩, hB.setCell (p := ⟨o, 2, none⟩) (by show b ≤ o; omega) _⟩
 refine (blk_set hO 2 v10).trans ?_
 simp
theorem cut_sum (f i : Nat) (hf : f < 65536) (hi : i ≤ 15) : (IntKind.i64.wrap (IntKind.i64.wrap ((f : Int) + (i : Int)) + 1)) % 65536 = (((f + i + 1) % 65536 : Nat) : Int) := by
 rw [IntKind.wrap_i64, IntKind.wrap_i64]; omega
set_option maxHeartbeats 4000000 in
theorem nack_Decode.main (s : ByteArray) (w : World) (h1 : s.size ≤ 65536) (h4 : s.size % 4 = 0) (h12 : 12 ≤ s.size) :
  Calls Try.prog 41 #[.string s] w fun e w' => ∃ v2_ : Value, e = .returned (.tuple #[.agg #[.int .u32 (B.nackDec s).1, .int .u32 (B.nackDec s).2.1, v2_], .int .i64 (B.nackDec s).2.2.2]) ∧ w'.ownsRow w.heap.size 3 1 v2_ (B.nackDec s).2.2.1.length (nums .i64 (B.nackDec s).2.2.1) ∧ Below w.heap.size w w' := by
 have hd1 : decide (65536 < (s.size : Int)) = false := decide_eq_false (by omega)
 have hd2 : ((s.size : Int) % 4 != 0) = false := by simp; omega
 have hd3 : decide ((s.size : Int) < 12) = false := decide_eq_false (by omega)
 go_enter Try.func41, Try.ntmps41
 go_wp2_with fail
 refine (B.read_any _ _).mono ?_
 rintro e w1 ⟨rfl, hw1⟩
 have hsz : (w.alloc (.cells #[.int .u32 0, .int .u32 0, .slice none 0 0] 83)).heap.size = w.heap.size + 1 := by simp
 have hR1 : B.RdIs w1 (w.heap.size + 1) 146 s 0 false := by
  have h := blk_new (w.alloc (.cells #[.int .u32 0, .int .u32 0, .slice none 0 0] 83)) (.cells #[.string s, .int .i64 0, .bool false] 146)
  rw [hsz] at h
  rw [hw1]
  exact h
 have hZ1 : w1.heap[w.heap.size]? = some (.cells #[.int .u32 0, .int .u32 0, .slice none 0 0] 83) := by rw [hw1]; exact blk_alloc (blk_new w _) _
 have hB1 : Below w.heap.size w w1 := by rw [hw1]; exact ((Below.refl _ w).alloc (Nat.le_refl _) _).alloc (by simp) _
 clear hw1 hsz
 go_wp2_with fail
 refine (B.get_good _ _ s 0 32 hR1 (by omega) (by omega) (by omega) (by omega)).mono ?_
 rintro e w2 ⟨rfl, hR2, hG2⟩
 have hZ2 := blk_grown hZ1 hG2 (by simp)
 have hB2 := hB1.grown hG2 hB1.size (by simp)
 clear hR1 hZ1 hB1 hG2
 go_wp2_with fail
 refine (B.get_good _ _ s 32 32 hR2 (by omega) (by omega) (by omega) (by omega)).mono ?_
 rintro e w3 ⟨rfl, hR3, hG3⟩
 have hZ3 := blk_grown hZ2 hG3 (by simp)
 have hB3 := hB2.grown hG3 hB2.size (by simp)
 clear hR2 hZ2 hB2 hG3
 obtain ⟨S, hS⟩ : ∃ S : Int, (B.rdBits s 0 32 : Int) = S := ⟨_, rfl⟩
 obtain ⟨M, hM⟩ : ∃ M : Int, (B.rdBits s 32 32 : Int) = M := ⟨_, rfl⟩
 rw [hS, hM]
 have HS := Aside0.mk hS
 have HM := Aside0.mk hM
 clear hS hM
 go_wp2
 obtain ⟨b, hb⟩ : ∃ b, w.heap.size = b := ⟨_, rfl⟩
 have hbw := Aside0.mk hb
 rw [hb] at hR3 hZ3 hB3 ⊢
 clear hb
 obtain ⟨r, hr⟩ : ∃ r, b + 1 = r := ⟨_, rfl⟩
 rw [hr] at hR3 ⊢
 have hbr : b < r := by omega
 have hrl : r < w3.heap.size := blk_lt hR3
 obtain ⟨o, ho⟩ : ∃ o, w3.heap.size = o := ⟨_, rfl⟩
 have hI0 : DecI w s b r o S M 64 [] (w3.alloc (.cells #[.int .u32 S, .int .u32 M, .slice none 0 0] 83)) := by
  refine ⟨blk_alloc hR3 _, blk_alloc hZ3 _, ⟨.slice none 0 0, by rw [← ho]; exact blk_new _ _, own_nil _ _ _ _⟩, hB3.alloc (by omega) _⟩
 rw [ho] at hrl ⊢
 have HI0 := Aside0.mk hI0
 have HM0 := Aside0.mk hr
 clear hI0 hR3 hZ3 hB3 ho hr
 go_loopw [6] (fun _ wr => ∃ j : Nat, 64 + 32 * j ≤ 8 * s.size ∧ DecI w s b r o S M ((64 + 32 * j : Nat) : Int) (B.lostAll s j) wr) (fun _ wr => (8 * (s.size : Int) - intOf ((wr.cell? ⟨r, 1, none⟩).getD undef)).toNat)
 case atStart => exact ⟨0, by omega, HI0.out⟩
 case round =>
  obtain ⟨j, hj, hR, hZ, ⟨v, hO, HOW⟩, hB⟩ := hrel
  clear HI0
  obtain ⟨A, hA⟩ : ∃ A : Int, ((64 + 32 * j : Nat) : Int) = A := ⟨_, rfl⟩
  have HA := Aside0.mk hA
  rw [hA] at hR
  have hA0 : 0 ≤ A := by omega
  have hA1 : A ≤ 8 * (s.size : Int) := by omega
  clear hA
  by_cases hlt : A < 8 * (s.size : Int)
  ·have hdl : decide (A < 8 * (s.size : Int)) = true := decide_eq_true hlt
   have hA32 : A + 32 ≤ 8 * (s.size : Int) := by have := HA.out; omega
   obtain ⟨X, hX⟩ : ∃ X, B.lostAll s j = X := ⟨_, rfl⟩
   rw [hX] at HOW
   have HX := Aside0.mk hX
   have hXl : X.length ≤ 300000 := by rw [← hX]; have := B.lostAll_length s j; omega
   have HC0 := Aside0.mk (blk_cell hR 1)
   clear hX
   go_wp2_with fail
   refine (B.left_any _ _ s _ hR (by omega) hA0 hA1).mono ?_
   rintro e wl ⟨rfl, hDl⟩
   obtain ⟨nd, rfl⟩ := hDl.out
   have hI : DecI w s b r o S M A X (wr.drewN nd) := ⟨hR, blk_drewN hZ nd, ⟨v, hO, HOW⟩, pw_below_drewN hB nd⟩
   clear hR hZ hO HOW hB hDl
   generalize wr.drewN nd = wl at *
   obtain ⟨hR, hZ, ⟨v, hO, HOW⟩, hB⟩ := hI
   obtain ⟨f, hf⟩ : ∃ f, B.rdBits s A.toNat (16 : Int).toNat = f := ⟨_, rfl⟩
   obtain ⟨m, hm⟩ : ∃ m, B.rdBits s (A + 16).toNat (16 : Int).toNat = m := ⟨_, rfl⟩
   have hf1 : f < 65536 := by rw [← hf]; exact B.rdBits_lt s _ 16
   have hm1 : m < 65536 := by rw [← hm]; exact B.rdBits_lt s _ 16
   have HLA : Aside0 (B.lostAt s j = B.lostPart f m 16) := ⟨by unfold B.lostAt; rw [← hf, ← hm, show (16 : Int).toNat = 16 from rfl, show A.toNat = 64 + 32 * j by have := HA.out; omega, show (A + 16).toNat = 80 + 32 * j by have := HA.out; omega]⟩
   have Hf := Aside0.mk hf
   have Hm := Aside0.mk hm
   have HU := Try.underlying24
   clear hf hm
   have hRo : r < o := hrl
   go_wp2
   refine B.wp_scope_goto 0 (DecJ w s b r o S M (A + 32) X f m) (fun a' _ => (16 - intOf (a'.tmps.getD 8 undef)).toNat) rfl ?_ ?_
   ·clear hR hZ hO HOW hB
    rintro a' w' ⟨i, q33, q34, q35, q36, q37, q38, q39, q40, q41, q42, q43, q44, q45, q46, q47, q48, q49, q50, q51, q52, q53, q54, q55, q56, q57, q58, q59, q60, q61, q62, q63, q64, q65, rfl, hi, hR, hZ, ⟨v1, hO, HOW⟩, hB⟩
    obtain ⟨A1, cc1, rfl⟩ := own_slice HOW
    have hol := blk_lt hO
    have o2 := blk_cell hO 2
    have of2 := blk_frozen hO 2
    simp only [List.getElem?_toArray, List.getElem?_cons_zero, List.getElem?_cons_succ] at o2
    have hXl2 : (X ++ B.lostPart f m i).length ≤ 400000 := by have := B.lostPart_length f m i; rw [List.length_append]; omega
    have HAND := B.and_one_u32 m i (by omega)
    by_cases hbit : m.testBit i = true
    ·rw [hbit] at HAND
     have HB1 := Aside0.mk (B.lostPart_yes f m i hbit)
     clear hbit
     have hand : bits .and .u32 ((m : Int) / 2 ^ i) 1 = 1 := HAND
     clear HAND
     obtain ⟨Y, hY⟩ : ∃ Y, X ++ B.lostPart f m i = Y := ⟨_, rfl⟩
     rw [hY] at HOW o2 hO hXl2
     have HY := Aside0.mk hY
     have HO := Aside0.mk hO
     have HR := Aside0.mk hR
     have HZ := Aside0.mk hZ
     have HBW := Aside0.mk hB
     have HOWA := Aside0.mk HOW
     have HC := Aside0.mk ((wrap_Cut.at16 (IntKind.i64.wrap (IntKind.i64.wrap ((f : Int) + (i : Int)) + 1))).trans (congrArg some (cut_sum f i hf1 hi)))
     obtain ⟨R, hRR⟩ : ∃ R : Int, (((f + i + 1) % 65536 : Nat) : Int) = R := ⟨_, rfl⟩
     rw [hRR] at HC HB1
     clear hRR
     clear hY hO hR hZ hB HOW
     have hcA : ∀ (k : Nat) (x : Obj), ((w'.drewN k).alloc x).cell? ⟨o, 2, none⟩ = some (.slice A1 Y.length cc1) := fun k x => (World.cell?_alloc_lt (w'.drewN k) x ⟨o, 2, none⟩ hol).trans o2
     go_wp2
     go_region_law (first | (go_loud (refine goes_ (N := some 58) Try.func43 rfl rfl #[.int .i64 (IntKind.i64.wrap (IntKind.i64.wrap ((f : Int) + (i : Int)) + 1)), .int .i64 16] rfl rfl rfl ?_ ?_); go_loud (simp only [List.map_toArray, List.map_cons, List.map_nil]); rfl; go_loud (refine (wrap_Cut.calls _ 16 R _ HC.out).mono ?_); rintro e w9 ⟨rfl, ⟨⟨nd9, rfl⟩⟩⟩; refine ⟨_, rfl, ?_⟩) | (go_loud (refine B.step_append_num (w0 := w') (o + 1) rfl (.tmp 53) (.tmp 59) 24 3 .i64 8 rfl HU info_int (by omega) (.slice A1 Y.length cc1) Y R rfl rfl HOWA.out (pw_below_drewN (Below.refl _ _) _) (by show o + 1 ≤ w'.heap.size; omega) (by omega) ?_; intro v10 w10 HOW10 hB10 hG10' hA10; have hG10 : w'.grownBy w10 (Value.slice A1 Y.length cc1).ownBlock := ⟨hG10'.os, hG10'.tape, hG10'.output, hG10'.size, hG10'.block⟩; have HO10 := Aside0.mk (blk_grown HO.out hG10 (fun e => by have := own_base HOWA.out o e.symm; omega)); have k10 := blk_cell HO10.out 2; have f10 := blk_frozen HO10.out 2; simp only [List.getElem?_toArray, List.getElem?_cons_zero, List.getElem?_cons_succ] at k10; have HR10 := Aside0.mk (blk_grown HR.out hG10 (fun e => by have := own_base HOWA.out r e.symm; omega)); have HZ10 := Aside0.mk (blk_grown HZ.out hG10 (fun e => by have := own_base HOWA.out b e.symm; omega)); obtain ⟨A10, n10, rfl⟩ := own_slice HOW10)))
     all_goals
      have hDI : DecI w s b r o S M (A + 32) (X ++ B.lostPart f m (i + 1)) (w10.setCell ⟨o, 2, none⟩ (.slice A10 (Y ++ [R]).length n10)) := by
       rw [HB1.out, ← List.append_assoc, HY.out]
       exact dec_step hbr hRo HR10.out HZ10.out HO10.out HOW10 (HBW.out.grown hG10 (Nat.le_trans (by omega) (Nat.le_of_lt hol)) (fun k hk => by have := own_base HOWA.out k hk; omega))
      simp only [List.length_append, List.length_singleton] at hDI
      have HDI := Aside0.mk hDI
      clear hDI HOW10 HR10 HZ10 HO10 hG10 hG10' hB10
      by_cases hi15 : (i : Int) + 1 < 16
      ·have hdi : decide ((i : Int) + 1 < 16) = true := decide_eq_true hi15
       have hi14 : i + 1 ≤ 15 := by omega
       clear hi15
       go_wp2
       go_step3
       refine ⟨rfl, ⟨i + 1, _, _, _, _, _, _, _, _, _, _, _, _, _, _, _, _, _, _, _, _, _, _, _, _, _, _, _, _, _, _, _, _, _, rfl, by omega, HDI.out⟩, ?_⟩
       simp [intOf]
       omega
      ·have hdi : decide ((i : Int) + 1 < 16) = false := decide_eq_false hi15
       have HI16 : Aside0 (i + 1 = 16) := ⟨by omega⟩
       clear hi15
       go_wp2
       simp only [Exit.jump]
       go_wp2
       go_roundw
       case rel =>
        refine ⟨j + 1, by have := HA.out; omega, ?_⟩
        have hDI := HDI.out
        rw [HI16.out, ← HLA.out, ← HX.out, ← B.lostAll_succ] at hDI
        rw [show ((64 + 32 * (j + 1) : Nat) : Int) = A + 32 by have := HA.out; omega]
        exact hDI
       case measure =>
        have h1 := HDI.out.1
        have h2 := blk_cell h1 1
        simp only [List.getElem?_toArray, List.getElem?_cons_zero, List.getElem?_cons_succ] at h2
        have h3 := HC0.out
        simp only [List.getElem?_toArray, List.getElem?_cons_zero, List.getElem?_cons_succ] at h3
        rw [h2, h3]
        simp [intOf]
        omega
    ·have hbit' : m.testBit i = false := by simpa using hbit
     rw [hbit'] at HAND
     have hand : bits .and .u32 ((m : Int) / 2 ^ i) 1 = 0 := HAND
     have HDI : Aside0 (DecI w s b r o S M (A + 32) (X ++ B.lostPart f m (i + 1)) w') := ⟨by rw [B.lostPart_no f m i hbit']; exact ⟨hR, hZ, ⟨_, hO, HOW⟩, hB⟩⟩
     clear HAND hbit hbit' hR hZ hO HOW hB o2 of2
     by_cases hi15 : (i : Int) + 1 < 16
     ·have hdi : decide ((i : Int) + 1 < 16) = true := decide_eq_true hi15
      have hi14 : i + 1 ≤ 15 := by omega
      clear hi15
      go_wp2
      go_step3
      refine ⟨rfl, ⟨i + 1, _, _, _, _, _, _, _, _, _, _, _, _, _, _, _, _, _, _, _, _, _, _, _, _, _, _, _, _, _, _, _, _, _, rfl, by omega, HDI.out⟩, ?_⟩
      simp [intOf]
      omega
     ·have hdi : decide ((i : Int) + 1 < 16) = false := decide_eq_false hi15
      have HI16 : Aside0 (i + 1 = 16) := ⟨by omega⟩
      clear hi15
      go_wp2
      simp only [Exit.jump]
      go_wp2
      go_roundw
      case rel =>
       refine ⟨j + 1, by have := HA.out; omega, ?_⟩
       have hDI := HDI.out
       rw [HI16.out, ← HLA.out, ← HX.out, ← B.lostAll_succ] at hDI
       rw [show ((64 + 32 * (j + 1) : Nat) : Int) = A + 32 by have := HA.out; omega]
       exact hDI
      case measure =>
       have h1 := HDI.out.1
       have h2 := blk_cell h1 1
       simp only [List.getElem?_toArray, List.getElem?_cons_zero, List.getElem?_cons_succ] at h2
       have h3 := HC0.out
       simp only [List.getElem?_toArray, List.getElem?_cons_zero, List.getElem?_cons_succ] at h3
       rw [h2, h3]
       simp [intOf]
       omega
   ·intro hrest
    go_wp2_with fail
    refine (B.get_int _ _ s A 16 hR (by omega) hA0 (by omega) (by omega) (by omega)).mono ?_
    rintro e w6 ⟨rfl, hR6, hG6⟩
    rw [Hf.out]
    have hZ6 := blk_grown hZ hG6 (by simp; omega)
    have hO6 := blk_grown hO hG6 (by simp; omega)
    have HOW6 : w6.ownsRow (o + 1) 3 1 v X.length (nums .i64 X) := HOW.kept hG6 (.inr fun e => by have := own_base HOW r e; omega)
    have hB6 := hB.grown hG6 (Nat.le_of_lt (Nat.lt_trans hbr (blk_lt hR))) (by simp; omega)
    clear hR hZ hO HOW hB hG6
    go_wp2_with fail
    refine (B.get_int _ _ s (A + 16) 16 hR6 (by omega) (by omega) (by omega) (by omega) (by omega)).mono ?_
    rintro e w7 ⟨rfl, hR7, hG7⟩
    rw [Hm.out]
    have hZ7 := blk_grown hZ6 hG7 (by simp; omega)
    have hO7 := blk_grown hO6 hG7 (by simp; omega)
    have HOW7 : w7.ownsRow (o + 1) 3 1 v X.length (nums .i64 X) := HOW6.kept hG7 (.inr fun e => by have := own_base HOW6 r e; omega)
    have hB7 := hB6.grown hG7 (Nat.le_of_lt (Nat.lt_trans hbr (blk_lt hR6))) (by simp; omega)
    clear hR6 hZ6 hO6 HOW6 hB6 hG7
    have hol := blk_lt hO7
    have o2 := blk_cell hO7 2
    have of2 := blk_frozen hO7 2
    simp only [List.getElem?_toArray, List.getElem?_cons_zero, List.getElem?_cons_succ] at o2
    have HR7 := Aside0.mk hR7
    have HZ7 := Aside0.mk hZ7
    have HO7 := Aside0.mk hO7
    have HB7 := Aside0.mk hB7
    clear hR7 hZ7 hO7 hB7 hdl
    go_wp2_with (at_builtin; refine print_append_num (w0 := w7) (o + 1) rfl (.tmp 42) (.tmp 44) 24 3 .i64 8 rfl HU info_int (by omega) v X (f : Int) rfl rfl HOW7 (Below.refl _ _) (by omega) (by omega) ?_; intro v8 w8 HOW8 hB8 hG8 hA8; obtain ⟨A8, n8, rfl⟩ := own_slice HOW8; have HO8 := Aside0.mk (blk_grown HO7.out hG8 (fun e => by have := own_base HOW7 o e.symm; omega)); have c82 := blk_cell HO8.out 2; have f82 := blk_frozen HO8.out 2; simp only [List.getElem?_toArray, List.getElem?_cons_zero, List.getElem?_cons_succ] at c82)
    go_step3
    rename_i K hK
    refine hK _ _ (hrest.out _ _ ⟨0, _, _, _, _, _, _, _, _, _, _, _, _, _, _, _, _, _, _, _, _, _, _, _, _, _, _, _, _, _, _, _, _, _, rfl, by omega, ?_⟩)
    rw [B.lostPart_zero]
    rw [show X.length + 1 = (X ++ [(f : Int)]).length by simp]
    exact dec_step hbr hRo (by rw [show A + 32 = A + 16 + 16 by omega]; exact blk_grown HR7.out hG8 (fun e => by have := own_base HOW7 r e.symm; omega)) (blk_grown HZ7.out hG8 (fun e => by have := own_base HOW7 b e.symm; omega)) HO8.out HOW8 (HB7.out.grown hG8 (Nat.le_trans (by omega) (Nat.le_of_lt hol)) (fun k hk => by have := own_base HOW7 k hk; omega))
  ·have hdl : decide (A < 8 * (s.size : Int)) = false := decide_eq_false hlt
   have HJ : Aside0 (j = (s.size - 8) / 4) := ⟨by have := HA.out; omega⟩
   obtain ⟨Av, cv, rfl, hcv, hC⟩ := Kd.R_reads (B.R_of_own HOW)
   obtain ⟨X, hX⟩ : ∃ X, B.lostAll s j = X := ⟨_, rfl⟩
   rw [hX] at hO HOW hcv hC
   have HX := Aside0.mk hX
   have hXl : X.length ≤ 300000 := by rw [← hX]; have := B.lostAll_length s j; omega
   clear hX
   go_wp2_with fail
   refine (B.left_any _ _ s _ hR (by omega) hA0 hA1).mono ?_
   rintro e wl ⟨rfl, hDl⟩
   obtain ⟨nd, rfl⟩ := hDl.out
   have hC1 := Kd.C_below hC (Drawn0.below (w := wr) ⟨nd, rfl⟩)
   have hO1 := blk_drewN hO nd
   have hZ1 := blk_drewN hZ nd
   have HOW1 : (wr.drewN nd).ownsRow (o + 1) 3 1 (.slice Av X.length cv) X.length (nums .i64 X) := HOW
   have hB1 : Below b w (wr.drewN nd) := pw_below_drewN hB nd
   generalize wr.drewN nd = wl at *
   have o0 := blk_cell hO1 0
   have o1 := blk_cell hO1 1
   have o2 := blk_cell hO1 2
   have z0 := blk_cell hZ1 0
   have z1 := blk_cell hZ1 1
   have z2 := blk_cell hZ1 2
   have zf0 := blk_frozen hZ1 0
   have zf1 := blk_frozen hZ1 1
   have zf2 := blk_frozen hZ1 2
   simp only [List.getElem?_toArray, List.getElem?_cons_zero, List.getElem?_cons_succ] at o0 o1 o2 z0 z1 z2
   have HC1 := Aside0.mk hC1
   have HO1 := Aside0.mk hO1
   have HZ1 := Aside0.mk hZ1
   have HOWA := Aside0.mk HOW1
   clear hC1 hO1 hZ1 HOW1 hC hO hZ HOW hR hDl hB hlt
   go_wp2_with fail
   refine (nack_fault.calls Av cv X _ _ HC1.out hcv rfl).mono ?_
   rintro e w5 ⟨rfl, hD5⟩
   obtain ⟨nd5, rfl⟩ := hD5.out
   clear hD5
   have hND : B.nackDec s = if 4096 < X.length then (0, 0, [], 2 + 1) else if B.goodB X = true then (S, M, X, 0) else (0, 0, [], 110) := by
    unfold B.nackDec
    rw [if_neg (by omega), if_neg (by omega), if_neg (by omega), ← HJ.out, HX.out, HS.out, HM.out]
    rfl
   have HND := Aside0.mk hND
   clear hND
   by_cases c1 : 4096 < X.length
   ·rw [if_pos c1]
    go_wp2
    refine bodyPost_ret (results_ct rfl _ _ b 83 #[.int .u32 0, .int .u32 0, .slice none 0 0] (0, 0) _ rfl (B.blk_set3 _ _ _ (blk_drewN HZ1.out nd5)) Try.underlying83 rfl (by kernel_rfl)) rfl ?_
    rw [HND.out, if_pos c1]
    exact ⟨_, rfl, own_nil _ _ _ _, by rw [hbw.out]; exact B.below_set3 _ _ _ (pw_below_drewN hB1 nd5)⟩
   ·rw [if_neg c1]
    by_cases c2 : B.goodB X = true
    ·rw [if_pos c2]
     go_wp2
     refine bodyPost_ret (results_ct rfl _ _ b 83 #[.int .u32 S, .int .u32 M, .slice Av X.length cv] (0, 0) _ rfl (B.blk_set3 _ _ _ (blk_drewN HZ1.out nd5)) Try.underlying83 rfl (by kernel_rfl)) rfl ?_
     rw [HND.out, if_neg c1, if_pos c2]
     exact ⟨_, rfl, own_weaken (B.own_set3 _ _ _ HOWA.out (by omega)) (by rw [hbw.out]; omega), by rw [hbw.out]; exact B.below_set3 _ _ _ (pw_below_drewN hB1 nd5)⟩
    ·rw [if_neg c2]
     go_wp2
     refine bodyPost_ret (results_ct rfl _ _ b 83 #[.int .u32 0, .int .u32 0, .slice none 0 0] (0, 0) _ rfl (B.blk_set3 _ _ _ (blk_drewN HZ1.out nd5)) Try.underlying83 rfl (by kernel_rfl)) rfl ?_
     rw [HND.out, if_neg c1, if_neg c2]
     exact ⟨_, rfl, own_nil _ _ _ _, by rw [hbw.out]; exact B.below_set3 _ _ _ (pw_below_drewN hB1 nd5)⟩
theorem nack_Decode.early (s : ByteArray) (w : World) (c : Int) (hc : (65536 < s.size ∧ c = 2) ∨ (s.size ≤ 65536 ∧ s.size % 4 ≠ 0 ∧ c = 90) ∨ (s.size ≤ 65536 ∧ s.size % 4 = 0 ∧ s.size < 12 ∧ c = 60)) (hs : s.size ≤ 1000000000000000000) :
  Calls Try.prog 41 #[.string s] w fun e w' => e = .returned (.tuple #[.agg #[.int .u32 0, .int .u32 0, .slice none 0 0], .int .i64 c]) ∧ Below w.heap.size w w' := by
 rcases hc with ⟨h1, rfl⟩ | ⟨h1, h4, rfl⟩ | ⟨h1, h4, h12, rfl⟩
 ·have hd1 : decide (65536 < (s.size : Int)) = true := decide_eq_true (by omega)
  go_enter Try.func41, Try.ntmps41
  go_wp2
  exact bodyPost_ret (results_ct rfl _ _ w.heap.size 83 #[.int .u32 0, .int .u32 0, .slice none 0 0] (0, 0) _ rfl (blk_new _ _) Try.underlying83 rfl (by kernel_rfl)) rfl ⟨rfl, (Below.refl _ _).alloc (Nat.le_refl _) _⟩
 ·have hd1 : decide (65536 < (s.size : Int)) = false := decide_eq_false (by omega)
  have hd2 : ((s.size : Int) % 4 != 0) = true := by simp; omega
  go_enter Try.func41, Try.ntmps41
  go_wp2
  exact bodyPost_ret (results_ct rfl _ _ w.heap.size 83 #[.int .u32 0, .int .u32 0, .slice none 0 0] (0, 0) _ rfl (blk_new _ _) Try.underlying83 rfl (by kernel_rfl)) rfl ⟨rfl, (Below.refl _ _).alloc (Nat.le_refl _) _⟩
 ·have hd1 : decide (65536 < (s.size : Int)) = false := decide_eq_false (by omega)
  have hd2 : ((s.size : Int) % 4 != 0) = false := by simp; omega
  have hd3 : decide ((s.size : Int) < 12) = true := decide_eq_true (by omega)
  go_enter Try.func41, Try.ntmps41
  go_wp2
  exact bodyPost_ret (results_ct rfl _ _ w.heap.size 83 #[.int .u32 0, .int .u32 0, .slice none 0 0] (0, 0) _ rfl (blk_new _ _) Try.underlying83 rfl (by kernel_rfl)) rfl ⟨rfl, (Below.refl _ _).alloc (Nat.le_refl _) _⟩
theorem nack_Decode.calls (a0 : ByteArray) (r1 : Int) (r2 : Int) (r3 : List Int) (r4 : Int) (w : World) (h : nack_Decode.f a0 = some (r1, r2, r3, r4)) :
  Calls Try.prog 41 #[.string a0] w fun e w' => ∃ v2_ : Value, e = .returned (.tuple #[.agg #[.int .u32 r1, .int .u32 r2, v2_], .int .i64 r4]) ∧ Kd.R (Kd.int .i64) 3 w' w.heap.size (fun _ => True) v2_ r3 ∧ Below w.heap.size w w' := by
 unfold nack_Decode.f at h
 by_cases hs : a0.size ≤ 1000000000000000000
 ·rw [if_pos hs] at h
  have h := Option.some.inj h
  by_cases c1 : 65536 < a0.size
  ·have e : B.nackDec a0 = (0, 0, [], 2) := by unfold B.nackDec; rw [if_pos c1]
   rw [e] at h
   obtain ⟨rfl, rfl, rfl, rfl⟩ : r1 = 0 ∧ r2 = 0 ∧ r3 = [] ∧ r4 = 2 := by simpa [eq_comm] using h
   exact (nack_Decode.early a0 w 2 (.inl ⟨c1, rfl⟩) hs).mono fun _ _ ⟨he, hb⟩ => ⟨_, he, Kd.R_nil _ _ _ _ _, hb⟩
  by_cases c2 : a0.size % 4 ≠ 0
  ·have e : B.nackDec a0 = (0, 0, [], 90) := by unfold B.nackDec; rw [if_neg c1, if_pos c2]
   rw [e] at h
   obtain ⟨rfl, rfl, rfl, rfl⟩ : r1 = 0 ∧ r2 = 0 ∧ r3 = [] ∧ r4 = 90 := by simpa [eq_comm] using h
   exact (nack_Decode.early a0 w 90 (.inr (.inl ⟨by omega, c2, rfl⟩)) hs).mono fun _ _ ⟨he, hb⟩ => ⟨_, he, Kd.R_nil _ _ _ _ _, hb⟩
  by_cases c3 : a0.size < 12
  ·have e : B.nackDec a0 = (0, 0, [], 60) := by unfold B.nackDec; rw [if_neg c1, if_neg c2, if_pos c3]
   rw [e] at h
   obtain ⟨rfl, rfl, rfl, rfl⟩ : r1 = 0 ∧ r2 = 0 ∧ r3 = [] ∧ r4 = 60 := by simpa [eq_comm] using h
   exact (nack_Decode.early a0 w 60 (.inr (.inr ⟨by omega, by omega, c3, rfl⟩)) hs).mono fun _ _ ⟨he, hb⟩ => ⟨_, he, Kd.R_nil _ _ _ _ _, hb⟩
  refine (nack_Decode.main a0 w (by omega) (by omega) (by omega)).mono ?_
  rintro e w' ⟨v2, he, ho, hb⟩
  rw [h] at he ho
  exact ⟨v2, he, B.R_of_own ho, hb⟩
 ·rw [if_neg hs] at h; cases h
end Go.Proofs.Ytgakmnholegbgaa.PFeedReads
end
section
namespace Go.Proofs.Ytgakmnholegbgaa.B
open Go.RowKit Go.Proofs.YtgakmnholegbgaaW.PrintWords Go.Proofs.YtgakmnholegbgaaW.PrintLast Go.Proofs.YtgakmnholegbgaaW.PrintMore
set_option linter.unusedVariables false
set_option linter.unusedSimpArgs false
def NkPost (s : ByteArray) (w : World) (e : Ending) (w' : World) : Prop := ∃ v, e = .returned (.tuple #[.agg #[.int .u32 (nackDec s).1, .int .u32 (nackDec s).2.1, v], .int .i64 (nackDec s).2.2.2]) ∧ RowV w' w.heap.size 3 1 v (nackDec s).2.2.1.length (nums .i64 (nackDec s).2.2.1) ∧ Below w.heap.size w w'
theorem nack_any (s : ByteArray) (w : World) (hs : s.size ≤ 1000000) : Calls Try.prog 41 #[.string s] w (NkPost s w) := by
 have early : ∀ c : Int, ((65536 < s.size ∧ c = 2) ∨ (s.size ≤ 65536 ∧ s.size % 4 ≠ 0 ∧ c = 90) ∨ (s.size ≤ 65536 ∧ s.size % 4 = 0 ∧ s.size < 12 ∧ c = 60)) → nackDec s = (0, 0, [], c) → Calls Try.prog 41 #[.string s] w (NkPost s w) := by
  intro c hc e
  refine (PFeedReads.nack_Decode.early s w c hc (by omega)).mono ?_
  rintro e' w' ⟨rfl, hb⟩
  exact ⟨.slice none 0 0, by rw [e], by rw [e]; exact RowV.nil _ _ _ _, hb⟩
 by_cases c1 : 65536 < s.size
 ·exact early 2 (.inl ⟨c1, rfl⟩) (by unfold nackDec; rw [if_pos c1])
 by_cases c2 : s.size % 4 ≠ 0
 ·exact early 90 (.inr (.inl ⟨by omega, c2, rfl⟩)) (by unfold nackDec; rw [if_neg c1, if_pos c2])
 by_cases c3 : s.size < 12
 ·exact early 60 (.inr (.inr ⟨by omega, by omega, c3, rfl⟩)) (by unfold nackDec; rw [if_neg c1, if_neg c2, if_pos c3])
 refine (PFeedReads.nack_Decode.main s w (by omega) (by omega) (by omega)).mono ?_
 rintro e w' ⟨v2, he, ho, hb⟩
 exact ⟨v2, he, RowV.of_own ho, hb⟩
end Go.Proofs.Ytgakmnholegbgaa.B
end
section
namespace Go.Proofs.Ytgakmnholegbgaa.B
open Go.RowKit Go.Proofs.YtgakmnholegbgaaW.PrintWords Go.Proofs.YtgakmnholegbgaaW.PrintLast Go.Proofs.YtgakmnholegbgaaW.PrintMore
set_option linter.unusedVariables false
set_option linter.unusedSimpArgs false
inductive ToldV (x : P3) (w : World) (base : Nat) (v : Value) (e : Int) : Prop where
 | none_ (h : ¬ (x.2.1 = 205 ∧ (x.1 = 11 ∨ x.1 = 15 ∨ x.1 = 1))) (hv : v = .nilIface) (he : e = 0)
 | one (h : x.1 = 11 ∧ x.2.1 = 205) (vb : Value) (L : List (B3 × Value)) (hv : v = .iface 70 (.agg #[.int .u32 (ccfbP x.2.2).1.1, vb, .int .u32 (ccfbP x.2.2).1.2.2])) (hL : BlocksV w base vb L) (hl : L.map (·.1) = (ccfbP x.2.2).1.2.1) (he : e = (ccfbP x.2.2).2)
 | two (h : x.1 = 15 ∧ x.2.1 = 205) (vS vD : Value) (hv : v = .iface 72 (.agg #[.int .u32 (twccP x.2.2).1.sender, .int .u32 (twccP x.2.2).1.media, .int .i64 (twccP x.2.2).1.first, .int .i64 (twccP x.2.2).1.base, .int .i64 (twccP x.2.2).1.count, vS, vD]))
   (hS : RowV w base 3 1 vS (twccP x.2.2).1.status.length (iV (twccP x.2.2).1.status)) (hD : RowV w base 3 1 vD (twccP x.2.2).1.deltas.length (iV (twccP x.2.2).1.deltas)) (he : e = (twccP x.2.2).2)
 | three (h : x.1 = 1 ∧ x.2.1 = 205) (vl : Value) (hv : v = .iface 75 (.agg #[.int .u32 (nackDec x.2.2).1, .int .u32 (nackDec x.2.2).2.1, vl])) (hl : RowV w base 3 1 vl (nackDec x.2.2).2.2.1.length (nums .i64 (nackDec x.2.2).2.2.1)) (he : e = (nackDec x.2.2).2.2.2)
def DecdPost (x : P3) (w : World) (e : Ending) (w' : World) : Prop := ∃ v n, e = .returned (.tuple #[v, .int .i64 n]) ∧ ToldV x w' w.heap.size v n ∧ Below w.heap.size w w'
set_option maxHeartbeats 4000000 in
theorem decoded_any (x : P3) (w : World) (hs : x.2.2.size ≤ 1000000) : Calls Try.prog 18 #[.agg #[.int .i64 x.1, .int .i64 x.2.1, .string x.2.2]] w (DecdPost x w) := by
 obtain ⟨x1, x2, x3⟩ := x
 dsimp only at hs ⊢
 have hB0 : ∀ o, Below w.heap.size w (w.alloc o) := fun o => (Below.refl _ _).alloc (Nat.le_refl _) o
 have hz0 : ∀ o, w.heap.size ≤ (w.alloc o).heap.size := fun o => (hB0 o).size
 by_cases h2 : x2 = 205
 ·have p2 : (x2 != 205) = false := by rw [h2]; rfl
  by_cases h11 : x1 = 11
  ·have p11 : (x1 == 11) = true := by rw [h11]; rfl
   have HX := Aside0.mk (And.intro h2 h11)
   clear h2 h11
   go_enter Try.func18, Try.ntmps18
   go_wp2_with fail
   refine (ccfb_any x3 _ hs).mono ?_
   rintro e w1 ⟨vb, L, rfl, hL, hl, hB⟩
   obtain ⟨vA, vc, rfl, -⟩ := hL.1.form
   have HL := Aside0.mk (And.intro (hL.low (hz0 _)) (And.intro hl ((hB0 _).trans (hB.mono (hz0 _)))))
   clear hL hl hB
   go_wp2_with fail
   go_ret2
   exact ⟨_, _, rfl, .one ⟨HX.out.2, HX.out.1⟩ _ L rfl (HL.out.1.alloc _) HL.out.2.1 rfl, HL.out.2.2.alloc (HL.out.2.2.size) _⟩
  ·by_cases h15 : x1 = 15
   ·have p11 : (x1 == 11) = false := by rw [h15]; rfl
    have p15 : (x1 == 15) = true := by rw [h15]; rfl
    have HX := Aside0.mk (And.intro h2 h15)
    clear h2 h15 h11
    go_enter Try.func18, Try.ntmps18
    go_wp2_with fail
    refine (twcc_any x3 _ hs).mono ?_
    rintro e w1 ⟨vS, vD, rfl, hS, hD, hB⟩
    obtain ⟨vA, vc, rfl, -⟩ := hS.form
    obtain ⟨vA2, vc2, rfl, -⟩ := hD.form
    have HL := Aside0.mk (And.intro (hS.low (hz0 _)) (And.intro (hD.low (hz0 _)) ((hB0 _).trans (hB.mono (hz0 _)))))
    clear hS hD hB
    go_wp2_with fail
    go_ret2
    exact ⟨_, _, rfl, .two ⟨HX.out.2, HX.out.1⟩ _ _ rfl (HL.out.1.below ((Below.refl _ _).alloc (Nat.le_refl _) _)) (HL.out.2.1.below ((Below.refl _ _).alloc (Nat.le_refl _) _)) rfl, HL.out.2.2.alloc (HL.out.2.2.size) _⟩
   ·by_cases h1 : x1 = 1
    ·have p11 : (x1 == 11) = false := by rw [h1]; rfl
     have p15 : (x1 == 15) = false := by rw [h1]; rfl
     have p1 : (x1 == 1) = true := by rw [h1]; rfl
     have HX := Aside0.mk (And.intro h2 h1)
     clear h2 h15 h11 h1
     go_enter Try.func18, Try.ntmps18
     go_wp2_with fail
     refine (nack_any x3 _ hs).mono ?_
     rintro e w1 ⟨v, rfl, hv, hB⟩
     obtain ⟨vA, vc, rfl, -⟩ := hv.form
     have HL := Aside0.mk (And.intro (hv.low (hz0 _)) ((hB0 _).trans (hB.mono (hz0 _))))
     clear hv hB
     go_wp2_with fail
     go_ret2
     exact ⟨_, _, rfl, .three ⟨HX.out.2, HX.out.1⟩ _ rfl (HL.out.1.below ((Below.refl _ _).alloc (Nat.le_refl _) _)) rfl, HL.out.2.alloc (HL.out.2.size) _⟩
    ·have p11 : (x1 == 11) = false := by simp [h11]
     have p15 : (x1 == 15) = false := by simp [h15]
     have p1 : (x1 == 1) = false := by simp [h1]
     have HX := Aside0.mk (And.intro h11 (And.intro h15 h1))
     clear h2 h15 h11 h1
     go_enter Try.func18, Try.ntmps18
     go_wp2_with fail
     go_ret2
     exact ⟨.nilIface, 0, rfl, .none_ (fun h => h.2.elim (fun h => HX.out.1 h) (fun h => h.elim (fun h => HX.out.2.1 h) (fun h => HX.out.2.2 h))) rfl rfl, hB0 _⟩
 ·have p2 : (x2 != 205) = true := by simp [h2]
  have HX := Aside0.mk h2
  clear h2
  go_enter Try.func18, Try.ntmps18
  go_wp2_with fail
  go_ret2
  exact ⟨.nilIface, 0, rfl, .none_ (fun h => HX.out h.1) rfl rfl, hB0 _⟩
end Go.Proofs.Ytgakmnholegbgaa.B
end
section
namespace Go.Proofs.Ytgakmnholegbgaa.B
open Go.RowKit Go.Proofs.YtgakmnholegbgaaW.PrintWords Go.Proofs.YtgakmnholegbgaaW.PrintLast Go.Proofs.YtgakmnholegbgaaW.PrintMore
set_option linter.unusedVariables false
set_option linter.unusedSimpArgs false
set_option maxHeartbeats 8000000 in
set_option maxRecDepth 100000 in
theorem part_one (s : ByteArray) (w : World) (hs : s.size = 1) : Calls Try.prog 38 #[.string s] w (PartPost s w) := by
 go_enter Try.func38, Try.ntmps38
 go_wp2_with fail
 refine (read_any _ s).mono ?_
 rintro e w1 ⟨rfl, rfl⟩
 have hr0 : RdIs ((w.alloc (.cells #[.int .i64 0, .int .i64 0, .string { data := #[] }] 56)).alloc (.cells #[.string s, .int .i64 0, .bool false] 146)) (w.heap.size + 1) 146 s ((0 : Nat) : Int) false := by
  have h := blk_new (w.alloc (.cells #[.int .i64 0, .int .i64 0, .string { data := #[] }] 56)) (.cells #[.string s, .int .i64 0, .bool false] 146)
  rw [show (w.alloc (.cells #[.int .i64 0, .int .i64 0, .string { data := #[] }] 56)).heap.size = w.heap.size + 1 by simp] at h
  exact h
 have hB0 : Below w.heap.size w ((w.alloc (.cells #[.int .i64 0, .int .i64 0, .string { data := #[] }] 56)).alloc (.cells #[.string s, .int .i64 0, .bool false] 146)) := ((Below.refl _ _).alloc (Nat.le_refl _) _).alloc (by simp) _
 have hRB : ((w.alloc (.cells #[.int .i64 0, .int .i64 0, .string { data := #[] }] 56)).alloc (.cells #[.string s, .int .i64 0, .bool false] 146)).heap[w.heap.size]? = some (.cells #[.int .i64 0, .int .i64 0, .string { data := #[] }] 56 (0, 0)) := (Below.heap_alloc _ _ _ (by simp)).trans (blk_new w _)
 obtain ⟨p, hp⟩ : ∃ p, p = w.heap.size + 1 := ⟨_, rfl⟩
 obtain ⟨rb, hrb⟩ : ∃ p, p = w.heap.size := ⟨_, rfl⟩
 rw [show (w.alloc (.cells #[.int .i64 0, .int .i64 0, .string { data := #[] }] 56)).heap.size = p by simp [hp]]
 rw [← hp] at hr0
 rw [← hrb] at hRB ⊢
 generalize (w.alloc (.cells #[.int .i64 0, .int .i64 0, .string { data := #[] }] 56)).alloc (.cells #[.string s, .int .i64 0, .bool false] 146) = w1 at *
 have hpw : w.heap.size ≤ p := by omega
 have hrp : rb < p := by omega
 have hrw : w.heap.size ≤ rb := by omega
 have R1 := Aside0.mk hr0
 have B1 := Aside0.mk hB0
 have Q1 := Aside0.mk hRB
 clear hp hrb hr0 hB0 hRB
 go_wp2_with fail
 refine (get_good w1 p s 0 2 R1.out (by omega) (by omega) (by omega) (by omega)).mono ?_
 rintro e w2 ⟨rfl, hr, hg⟩
 have R2 : Aside0 (RdIs w2 p 146 s ((2 : Nat) : Int) false) := ⟨by simpa using hr⟩
 have B2 := Aside0.mk (grown_below B1.out hpw hg)
 clear hr hg
 obtain ⟨V1, hV1⟩ : ∃ V, V = rdBits s 0 2 := ⟨_, rfl⟩
 have v1 : V1 < 256 := by have := rdBits_lt s 0 2; rw [← hV1] at this; omega
 rw [← hV1]
 clear hV1
 go_wp2_with fail
 refine (get_good w2 p s 2 1 R2.out (by omega) (by omega) (by omega) (by omega)).mono ?_
 rintro e w3 ⟨rfl, hr, hg⟩
 have R3 : Aside0 (RdIs w3 p 146 s ((3 : Nat) : Int) false) := ⟨by simpa using hr⟩
 have B3 := Aside0.mk (grown_below B2.out hpw hg)
 clear hr hg
 obtain ⟨V2, hV2⟩ : ∃ V, V = rdBits s 2 1 := ⟨_, rfl⟩
 have v2 : V2 < 256 := by have := rdBits_lt s 2 1; rw [← hV2] at this; omega
 rw [← hV2]
 clear hV2
 go_wp2_with fail
 refine (get_good w3 p s 3 5 R3.out (by omega) (by omega) (by omega) (by omega)).mono ?_
 rintro e w4 ⟨rfl, hr, hg⟩
 have R4 : Aside0 (RdIs w4 p 146 s ((8 : Nat) : Int) false) := ⟨by simpa using hr⟩
 have B4 := Aside0.mk (grown_below B3.out hpw hg)
 clear hr hg
 obtain ⟨V3, hV3⟩ : ∃ V, V = rdBits s 3 5 := ⟨_, rfl⟩
 have v3 : V3 < 256 := by have := rdBits_lt s 3 5; rw [← hV3] at this; omega
 rw [← hV3]
 clear hV3
 go_wp2_with fail
 refine (get_over w4 p s ((8 : Nat) : Int) 8 R4.out (by omega) (by omega) (by omega)).mono ?_
 rintro e w5 ⟨rfl, hr, hg⟩
 have R5 := Aside0.mk hr
 have B5 := Aside0.mk (grown_below B4.out hpw hg)
 clear hr hg
 go_wp2_with fail
 have R6 : Aside0 (RdIs (w5.alloc (.cells #[.int .i64 (V3 : Int), .int .i64 0, .string { data := #[] }] 56)) p 146 s _ _) := ⟨(Below.heap_alloc w5 _ p (blk_lt R5.out)).trans R5.out⟩
 have B6 := Aside0.mk (B5.out.alloc (o := .cells #[.int .i64 (V3 : Int), .int .i64 0, .string { data := #[] }] 56) B5.out.size)
 generalize w5.alloc (.cells #[.int .i64 (V3 : Int), .int .i64 0, .string { data := #[] }] 56) = w6 at *
 refine (get_was w6 p s _ 16 R6.out).mono ?_
 rintro e w7 ⟨rfl, hr, hg⟩
 have R7 := Aside0.mk hr
 have B7 := Aside0.mk (grown_below B6.out hpw hg)
 clear hr hg
 go_wp2_with fail
 refine (bad_any w7 p s _ true R7.out).mono ?_
 rintro e w8 ⟨rfl, hw8⟩
 obtain rfl := hw8.symm
 have HE := Aside0.mk (show partErr s = 60 by unfold partErr; rw [if_pos (by omega)])
 go_wp2_with fail
 refine (want_no 60 _).mono ?_
 rintro e w8 ⟨rfl, hw8⟩
 obtain rfl := hw8.symm
 go_wp2_with fail
 exact ⟨rfl, PartPost.bad HE.out (by decide) B7.out⟩
set_option maxHeartbeats 8000000 in
set_option maxRecDepth 100000 in
theorem part_few (s : ByteArray) (w : World) (hs : 2 ≤ s.size) (hs2 : s.size < 4) : Calls Try.prog 38 #[.string s] w (PartPost s w) := by
 go_enter Try.func38, Try.ntmps38
 go_wp2_with fail
 refine (read_any _ s).mono ?_
 rintro e w1 ⟨rfl, rfl⟩
 have hr0 : RdIs ((w.alloc (.cells #[.int .i64 0, .int .i64 0, .string { data := #[] }] 56)).alloc (.cells #[.string s, .int .i64 0, .bool false] 146)) (w.heap.size + 1) 146 s ((0 : Nat) : Int) false := by
  have h := blk_new (w.alloc (.cells #[.int .i64 0, .int .i64 0, .string { data := #[] }] 56)) (.cells #[.string s, .int .i64 0, .bool false] 146)
  rw [show (w.alloc (.cells #[.int .i64 0, .int .i64 0, .string { data := #[] }] 56)).heap.size = w.heap.size + 1 by simp] at h
  exact h
 have hB0 : Below w.heap.size w ((w.alloc (.cells #[.int .i64 0, .int .i64 0, .string { data := #[] }] 56)).alloc (.cells #[.string s, .int .i64 0, .bool false] 146)) := ((Below.refl _ _).alloc (Nat.le_refl _) _).alloc (by simp) _
 have hRB : ((w.alloc (.cells #[.int .i64 0, .int .i64 0, .string { data := #[] }] 56)).alloc (.cells #[.string s, .int .i64 0, .bool false] 146)).heap[w.heap.size]? = some (.cells #[.int .i64 0, .int .i64 0, .string { data := #[] }] 56 (0, 0)) := (Below.heap_alloc _ _ _ (by simp)).trans (blk_new w _)
 obtain ⟨p, hp⟩ : ∃ p, p = w.heap.size + 1 := ⟨_, rfl⟩
 obtain ⟨rb, hrb⟩ : ∃ p, p = w.heap.size := ⟨_, rfl⟩
 rw [show (w.alloc (.cells #[.int .i64 0, .int .i64 0, .string { data := #[] }] 56)).heap.size = p by simp [hp]]
 rw [← hp] at hr0
 rw [← hrb] at hRB ⊢
 generalize (w.alloc (.cells #[.int .i64 0, .int .i64 0, .string { data := #[] }] 56)).alloc (.cells #[.string s, .int .i64 0, .bool false] 146) = w1 at *
 have hpw : w.heap.size ≤ p := by omega
 have hrp : rb < p := by omega
 have hrw : w.heap.size ≤ rb := by omega
 have R1 := Aside0.mk hr0
 have B1 := Aside0.mk hB0
 have Q1 := Aside0.mk hRB
 clear hp hrb hr0 hB0 hRB
 go_wp2_with fail
 refine (get_good w1 p s 0 2 R1.out (by omega) (by omega) (by omega) (by omega)).mono ?_
 rintro e w2 ⟨rfl, hr, hg⟩
 have R2 : Aside0 (RdIs w2 p 146 s ((2 : Nat) : Int) false) := ⟨by simpa using hr⟩
 have B2 := Aside0.mk (grown_below B1.out hpw hg)
 clear hr hg
 obtain ⟨V1, hV1⟩ : ∃ V, V = rdBits s 0 2 := ⟨_, rfl⟩
 have v1 : V1 < 256 := by have := rdBits_lt s 0 2; rw [← hV1] at this; omega
 rw [← hV1]
 clear hV1
 go_wp2_with fail
 refine (get_good w2 p s 2 1 R2.out (by omega) (by omega) (by omega) (by omega)).mono ?_
 rintro e w3 ⟨rfl, hr, hg⟩
 have R3 : Aside0 (RdIs w3 p 146 s ((3 : Nat) : Int) false) := ⟨by simpa using hr⟩
 have B3 := Aside0.mk (grown_below B2.out hpw hg)
 clear hr hg
 obtain ⟨V2, hV2⟩ : ∃ V, V = rdBits s 2 1 := ⟨_, rfl⟩
 have v2 : V2 < 256 := by have := rdBits_lt s 2 1; rw [← hV2] at this; omega
 rw [← hV2]
 clear hV2
 go_wp2_with fail
 refine (get_good w3 p s 3 5 R3.out (by omega) (by omega) (by omega) (by omega)).mono ?_
 rintro e w4 ⟨rfl, hr, hg⟩
 have R4 : Aside0 (RdIs w4 p 146 s ((8 : Nat) : Int) false) := ⟨by simpa using hr⟩
 have B4 := Aside0.mk (grown_below B3.out hpw hg)
 clear hr hg
 obtain ⟨V3, hV3⟩ : ∃ V, V = rdBits s 3 5 := ⟨_, rfl⟩
 have v3 : V3 < 256 := by have := rdBits_lt s 3 5; rw [← hV3] at this; omega
 rw [← hV3]
 clear hV3
 go_wp2_with fail
 refine (get_good w4 p s 8 8 R4.out (by omega) (by omega) (by omega) (by omega)).mono ?_
 rintro e w5 ⟨rfl, hr, hg⟩
 have R5 : Aside0 (RdIs w5 p 146 s ((16 : Nat) : Int) false) := ⟨by simpa using hr⟩
 have B5 := Aside0.mk (grown_below B4.out hpw hg)
 clear hr hg
 obtain ⟨V4, hV4⟩ : ∃ V, V = rdBits s 8 8 := ⟨_, rfl⟩
 have v4 : V4 < 256 := by have := rdBits_lt s 8 8; rw [← hV4] at this; omega
 rw [← hV4]
 clear hV4
 go_wp2_with fail
 have R6 : Aside0 (RdIs (w5.alloc (.cells #[.int .i64 (V3 : Int), .int .i64 (V4 : Int), .string { data := #[] }] 56)) p 146 s _ _) := ⟨(Below.heap_alloc w5 _ p (blk_lt R5.out)).trans R5.out⟩
 have B6 := Aside0.mk (B5.out.alloc (o := .cells #[.int .i64 (V3 : Int), .int .i64 (V4 : Int), .string { data := #[] }] 56) B5.out.size)
 generalize w5.alloc (.cells #[.int .i64 (V3 : Int), .int .i64 (V4 : Int), .string { data := #[] }] 56) = w6 at *
 refine (get_over w6 p s _ 16 R6.out (by omega) (by omega) (by omega)).mono ?_
 rintro e w7 ⟨rfl, hr, hg⟩
 have R7 := Aside0.mk hr
 have B7 := Aside0.mk (grown_below B6.out hpw hg)
 clear hr hg
 go_wp2_with fail
 refine (bad_any w7 p s _ true R7.out).mono ?_
 rintro e w8 ⟨rfl, hw8⟩
 obtain rfl := hw8.symm
 have HE := Aside0.mk (show partErr s = 60 by unfold partErr; rw [if_pos (by omega)])
 go_wp2_with fail
 refine (want_no 60 _).mono ?_
 rintro e w8 ⟨rfl, hw8⟩
 obtain rfl := hw8.symm
 go_wp2_with fail
 exact ⟨rfl, PartPost.bad HE.out (by decide) B7.out⟩
theorem part_any (s : ByteArray) (w : World) (h0 : 0 < s.size) (h1 : s.size ≤ 1000000) : Calls Try.prog 38 #[.string s] w (PartPost s w) := by
 by_cases h : 4 ≤ s.size
 ·exact part_long s w h h1
 ·by_cases h2 : s.size = 1
  ·exact part_one s w h2
  ·exact part_few s w (by omega) (by omega)
end Go.Proofs.Ytgakmnholegbgaa.B
end
section
namespace Go.Proofs.Ytgakmnholegbgaa.B
open Go.RowKit Go.Proofs.YtgakmnholegbgaaW.PrintWords Go.Proofs.YtgakmnholegbgaaW.PrintLast Go.Proofs.YtgakmnholegbgaaW.PrintMore
set_option linter.unusedVariables false
set_option linter.unusedSimpArgs false
def SplitPost (s : ByteArray) (w : World) (e : Ending) (w' : World) : Prop := ∃ v, e = .returned (.tuple #[v, .int .i64 (splitP s).2]) ∧ RowV w' w.heap.size 56 3 v (splitP s).1.length (partV (splitP s).1) ∧ Below w.heap.size w w'
def splitD (g1 g2 : Nat) : Deferred := { target := .fn (.func 36) #[.pointer (some ⟨g1, 0, none⟩), .pointer (some ⟨g2, 0, none⟩)], args := #[] }
theorem split_load (g1 g2 : Nat) (tm : Array Value) (w : World) (v x : Value) (t1 : tm[2]?.getD undef = .pointer (some ⟨g1, 0, none⟩)) (t2 : tm[3]?.getD undef = .pointer (some ⟨g2, 0, none⟩)) (c1 : w.cell? ⟨g1, 0, none⟩ = some v) (c2 : w.cell? ⟨g2, 0, none⟩ = some x) :
  (results Try.f17 tm).run Try.prog w = .ok (.tuple #[v, x]) w := by
 simp [results, Try.results17, go_sem, t1, t2, c1, c2]
theorem split_fault (s : ByteArray) (w0 w : World) (g1 g2 : Nat) (e : Int) (v x : Value) (tm : Array Value) (h1 : w0.heap.size ≤ g1) (h2 : w0.heap.size ≤ g2) (hne : ¬ g1 = g2) (ha : w.heap[g1]? = some (.cells #[v] 36 (0, 0))) (hb : w.heap[g2]? = some (.cells #[x] 27 (0, 0))) (hw : Below w0.heap.size w0 w)
  (t1 : tm[2]?.getD undef = .pointer (some ⟨g1, 0, none⟩)) (t2 : tm[3]?.getD undef = .pointer (some ⟨g2, 0, none⟩)) (hs : splitP s = ([], e)) :
  Leaves Try.prog Try.f17 tm (SplitPost s w0) [splitD g1 g2] (.panicking [faultV e]) w := by
 have ca := blk_cell ha 0
 have cb := blk_cell hb 0
 have fa := blk_frozen ha 0
 have fb := blk_frozen hb 0
 simp only [List.getElem?_toArray, List.getElem?_cons_zero, List.getElem?_cons_succ] at ca cb
 refine leaves_cons (f := 36) (args := #[.pointer (some ⟨g1, 0, none⟩), .pointer (some ⟨g2, 0, none⟩)]) (by simp) (by simp [go_sem]) ?_
 refine (catch_fault g1 g2 e w _ _ hne ca cb fa fb).mono ?_
 rintro r u' w'' ⟨rfl, rfl, rfl⟩
 have hl1 := World.block_lt_of_cell? w _ ca
 have hl2 := World.block_lt_of_cell? w _ cb
 dsimp only at hl1 hl2
 have hB : Below w0.heap.size w0 ((((w.setCell ⟨g1, 0, none⟩ (.slice none 0 0)).setCell ⟨g2, 0, none⟩ (.int .i64 e)).alloc (.cells #[.int .i64 e] 99)).drew) :=
  (((hw.setCell (p := ⟨g1, 0, none⟩) h1 _).setCell (p := ⟨g2, 0, none⟩) h2 _).alloc (by have := hw.size; simpa [World.setCell] using this) _).drew
 have q1 : ((((w.setCell ⟨g1, 0, none⟩ (.slice none 0 0)).setCell ⟨g2, 0, none⟩ (.int .i64 e)).alloc (.cells #[.int .i64 e] 99)).drew).cell? ⟨g1, 0, none⟩ = some (.slice none 0 0) := by
  simp [go_sem, hl1, ca, hne]
 have q2 : ((((w.setCell ⟨g1, 0, none⟩ (.slice none 0 0)).setCell ⟨g2, 0, none⟩ (.int .i64 e)).alloc (.cells #[.int .i64 e] 99)).drew).cell? ⟨g2, 0, none⟩ = some (.int .i64 e) := by
  simp [go_sem, hl2, cb]
 exact ⟨_, split_load g1 g2 tm _ _ _ t1 t2 q1 q2, _, by rw [hs], by rw [hs]; exact RowV.nil _ _ _ _, hB⟩
theorem split_good (s : ByteArray) (w0 w : World) (g1 g2 : Nat) (l : List P3) (v : Value) (tm : Array Value) (ha : w.heap[g1]? = some (.cells #[v] 36 (0, 0))) (hb : w.heap[g2]? = some (.cells #[.int .i64 0] 27 (0, 0))) (hw : Below w0.heap.size w0 w) (hr : RowV w w0.heap.size 56 3 v l.length (partV l))
  (t1 : tm[2]?.getD undef = .pointer (some ⟨g1, 0, none⟩)) (t2 : tm[3]?.getD undef = .pointer (some ⟨g2, 0, none⟩)) (hs : splitP s = (l, 0)) :
  Leaves Try.prog Try.f17 tm (SplitPost s w0) [splitD g1 g2] .returning w := by
 have ca := blk_cell ha 0
 have cb := blk_cell hb 0
 simp only [List.getElem?_toArray, List.getElem?_cons_zero, List.getElem?_cons_succ] at ca cb
 refine leaves_cons (f := 36) (args := #[.pointer (some ⟨g1, 0, none⟩), .pointer (some ⟨g2, 0, none⟩)]) (by simp) (by simp [go_sem]) ?_
 refine (catch_idle ⟨g1, 0, none⟩ ⟨g2, 0, none⟩ w).mono ?_
 rintro r u' w'' ⟨rfl, rfl, rfl⟩
 exact ⟨_, split_load g1 g2 tm _ _ _ t1 t2 ca cb, v, by rw [hs], by rw [hs]; exact hr, hw⟩
set_option maxHeartbeats 4000000 in
theorem split_long (s : ByteArray) (w : World) (h : 65536 < s.size) (h2 : s.size ≤ 1000000) : Calls Try.prog 17 #[.string s] w (SplitPost s w) := by
 have hmf : ∀ (fn : Fn) (first cap : Array Value) (w : World), (Instr.makeFunc fn first cap).run Try.prog w = .ok (.func fn first cap) w := fun _ _ _ _ => rfl
 have d1 : decide ((s.size : Int) ≤ 65536) = false := decide_eq_false (by omega)
 go_enter_defers Try.func17, Try.ntmps17
 go_wp2_with fail
 refine wp_scope_goto 0 (fun _ _ => False) (fun _ _ => 0) rfl ?_ ?_
 ·rintro a w hh
  exact hh.elim
 ·intro hrest
  clear hrest
  go_wp2_with fail
  refine (want_no 2 _).mono ?_
  rintro e w8 ⟨rfl, hw8⟩
  obtain rfl := hw8.symm
  go_wp2_with fail
  (try simp only [Exit.jump])
  refine split_fault s w _ w.heap.size (w.heap.size + 1) 2 (.slice none 0 0) (.int .i64 0) _ (Nat.le_refl _) (by omega) (by omega) ?_ ?_ (((Below.refl _ _).alloc (Nat.le_refl _) _).alloc (by simp) _) rfl rfl (splitP_long h)
  ·exact (Below.heap_alloc _ _ _ (by simp)).trans (blk_new w _)
  ·have h := blk_new (w.alloc (.cells #[.slice none 0 0] 36)) (.cells #[.int .i64 0] 27)
   simpa using h
theorem str_empty_ (s : ByteArray) : s.toList.isEmpty = decide (s.size = 0) := by
 rw [ByteArray.toList_eq, Bool.eq_iff_iff]
 simp only [List.isEmpty_iff, decide_eq_true_eq]
 exact ⟨fun h => (by have := congrArg List.length h; simpa using this), fun h => List.eq_nil_of_length_eq_zero (by simpa using h)⟩
theorem size_emptyS {s : ByteArray} (h : s.size = 0) : s = ({ data := #[] } : ByteArray) := by
 obtain ⟨d⟩ := s
 have : d = #[] := Array.eq_empty_of_size_eq_zero h
 rw [this]
set_option maxHeartbeats 4000000 in
theorem split_none (w : World) : Calls Try.prog 17 #[.string { data := #[] }] w (SplitPost { data := #[] } w) := by
 have hmf : ∀ (fn : Fn) (first cap : Array Value) (w : World), (Instr.makeFunc fn first cap).run Try.prog w = .ok (.func fn first cap) w := fun _ _ _ _ => rfl
 go_enter_defers Try.func17, Try.ntmps17
 go_wp2_with fail
 refine wp_scope_goto 0 (fun _ _ => False) (fun _ _ => 0) rfl ?_ ?_
 ·rintro a w hh
  exact hh.elim
 ·intro hrest
  clear hrest
  go_wp2_with fail
  refine (want_yes 2 _).mono ?_
  rintro e w8 ⟨rfl, hw8⟩
  obtain rfl := hw8.symm
  go_wp2_with fail
  refine (want_no 60 _).mono ?_
  rintro e w8 ⟨rfl, hw8⟩
  obtain rfl := hw8.symm
  go_wp2_with fail
  (try simp only [Exit.jump])
  refine split_fault _ w _ w.heap.size (w.heap.size + 1) 60 (.slice none 0 0) (.int .i64 0) _ (Nat.le_refl _) (by omega) (by omega) ?_ ?_ (((Below.refl _ _).alloc (Nat.le_refl _) _).alloc (by simp) _) rfl rfl (splitP_none rfl)
  ·exact (Below.heap_alloc _ _ _ (by simp)).trans (blk_new w _)
  ·have h := blk_new (w.alloc (.cells #[.slice none 0 0] 36)) (.cells #[.int .i64 0] 27)
   simpa using h
def splitF (g1 g2 : Nat) (r : ByteArray) (q : Nat → Value) : Act := { tmps := #[.string r, q 1, .pointer (some ⟨g1, 0, none⟩), .pointer (some ⟨g2, 0, none⟩), q 4, q 5, q 6, q 7, q 8, q 9, q 10, q 11, q 12, q 13, q 14, q 15, q 16, q 17, q 18, q 19, q 20, q 21, q 22, q 23, q 24, q 25, q 26, q 27, q 28], defers := [splitD g1 g2] }
def SplitJ (s : ByteArray) (w0 : World) (g1 g2 : Nat) (a : Act) (w : World) : Prop := ∃ (r : ByteArray) (l : List P3) (v : Value) (q : Nat → Value), a = splitF g1 g2 r q ∧ Aside0 (0 < r.size ∧ r.size + 4 * l.length ≤ 65536) ∧ Aside0 (w.heap[g1]? = some (.cells #[v] 36 (0, 0))) ∧ Aside0 (w.heap[g2]? = some (.cells #[.int .i64 0] 27 (0, 0))) ∧ Aside0 (Below w0.heap.size w0 w) ∧ Aside0 (RowV w w0.heap.size 56 3 v l.length (partV l)) ∧ Aside0 (Behind s l r)
def splitM (a : Act) : Nat := match a.tmps[0]? with
 | some (Value.string r) => r.size
 | _ => 0
theorem SplitJ.mk {s : ByteArray} {w0 : World} {g1 g2 : Nat} {a : Act} {w : World} (r : ByteArray) (l : List P3) (v : Value) (h : a = splitF g1 g2 r (fun i => a.tmps.getD i undef)) (h1 : 0 < r.size ∧ r.size + 4 * l.length ≤ 65536) (h2 : w.heap[g1]? = some (.cells #[v] 36 (0, 0))) (h3 : w.heap[g2]? = some (.cells #[.int .i64 0] 27 (0, 0)))
  (h4 : Below w0.heap.size w0 w) (h5 : RowV w w0.heap.size 56 3 v l.length (partV l)) (h6 : Behind s l r) : SplitJ s w0 g1 g2 a w := ⟨r, l, v, _, h, ⟨h1⟩, ⟨h2⟩, ⟨h3⟩, ⟨h4⟩, ⟨h5⟩, ⟨h6⟩⟩
set_option maxHeartbeats 4000000 in
set_option maxRecDepth 100000 in
theorem split_some (s : ByteArray) (w : World) (h0 : ¬ s.size = 0) (h1 : s.size ≤ 65536) : Calls Try.prog 17 #[.string s] w (SplitPost s w) := by
 have hmf : ∀ (fn : Fn) (first cap : Array Value) (w : World), (Instr.makeFunc fn first cap).run Try.prog w = .ok (.func fn first cap) w := fun _ _ _ _ => rfl
 have d1 : decide ((s.size : Int) ≤ 65536) = true := decide_eq_true (by omega)
 have d2 : s.toList.isEmpty = false := by rw [str_empty_]; exact decide_eq_false h0
 go_enter_defers Try.func17, Try.ntmps17
 go_wp2_with fail
 refine wp_scope_goto 0 (SplitJ s w w.heap.size (w.heap.size + 1)) (fun a _ => splitM a) rfl ?_ ?_
 ·rintro a w1 ⟨r, l, v, q, rfl, ⟨hr0, hr1⟩, hg1, hg2, hB, hR, hH⟩
  obtain ⟨g1, hgg1⟩ : ∃ g, g = w.heap.size := ⟨_, rfl⟩
  obtain ⟨g2, hgg2⟩ : ∃ g, g = w.heap.size + 1 := ⟨_, rfl⟩
  rw [← hgg2, ← hgg1]
  have HG := Aside0.mk (And.intro hgg1 hgg2)
  rw [← hgg2] at hg2
  rw [← hgg1] at hg1
  clear hgg1 hgg2
  unfold splitF splitD
  go_wp2_with fail
  refine (part_any r w1 hr0 (by omega)).mono ?_
  rintro e w2 ⟨⟨hE, rfl⟩ | ⟨hE, rfl⟩, hB2⟩
  ·have k1 := (hB2.block _ (blk_lt hg1.out)).trans hg1.out
   have c1 := blk_cell k1 0
   simp only [List.getElem?_toArray, List.getElem?_cons_zero, List.getElem?_cons_succ] at c1
   have f1 := blk_frozen k1 0
   have HB2 := Aside0.mk (hB.out.trans (hB2.mono hB.out.size))
   have HR2 := Aside0.mk (hR.out.below hB2)
   have K2 := Aside0.mk ((hB2.block _ (blk_lt hg2.out)).trans hg2.out)
   have K1 := Aside0.mk k1
   have HE := Aside0.mk hE
   obtain ⟨hp1, hp2⟩ := partErr_size hE
   have hp4 := partSize_ge r
   obtain ⟨A, c, rfl, hnc, hcm⟩ := hR.out.form
   obtain ⟨n, hn⟩ : ∃ n, n = l.length := ⟨_, rfl⟩
   obtain ⟨P, hP⟩ : ∃ P, P = partSize r := ⟨_, rfl⟩
   obtain ⟨T, hT⟩ : ∃ T, T = r.extract P r.size := ⟨_, rfl⟩
   have hTs : T.size = r.size - P := by rw [hT]; simp
   obtain ⟨X, hX⟩ : ∃ X, X = byteN r 0 % 32 := ⟨_, rfl⟩
   obtain ⟨Y, hY⟩ : ∃ Y, Y = byteN r 1 := ⟨_, rfl⟩
   obtain ⟨Z, hZ⟩ : ∃ Z, Z = partBody r := ⟨_, rfl⟩
   rw [← hn] at hr1 hnc c1 HR2 K1
   rw [← hP] at hp1 hp4
   rw [← hX, ← hY, ← hZ, ← hP]
   have HP := Aside0.mk hP
   have HT := Aside0.mk hT
   have HN := Aside0.mk hn
   have HXYZ := Aside0.mk (And.intro hX (And.intro hY hZ))
   have i1 : (P : Int) ≤ (r.size : Int) := by omega
   have i0 : (0 : Int) ≤ (P : Int) := by omega
   have hl1 := blk_lt k1
   clear hP hT hn hX hY hZ hE hB2 hB hR hg1 hg2 k1 hp2
   have HR3 := Aside0.mk ((HR2.out.alloc (.cells #[.int .i64 (X : Int), .int .i64 (Y : Int), .string Z] 56)).alloc (.cells #[.int .i64 (X : Int), .int .i64 (Y : Int), .string Z] 56))
   have HB3 := Aside0.mk ((HB2.out.alloc (o := .cells #[.int .i64 (X : Int), .int .i64 (Y : Int), .string Z] 56) HB2.out.size).alloc (o := .cells #[.int .i64 (X : Int), .int .i64 (Y : Int), .string Z] 56) (by have := HB2.out.size; simp; omega))
   have K13 := Aside0.mk ((Below.heap_alloc _ (.cells #[.int .i64 (X : Int), .int .i64 (Y : Int), .string Z] 56) _ (blk_lt ((Below.heap_alloc w2 (.cells #[.int .i64 (X : Int), .int .i64 (Y : Int), .string Z] 56) g1 hl1).trans K1.out))).trans ((Below.heap_alloc w2 (.cells #[.int .i64 (X : Int), .int .i64 (Y : Int), .string Z] 56) g1 hl1).trans K1.out))
   have hl2 := blk_lt K2.out
   have K23 := Aside0.mk ((Below.heap_alloc _ (.cells #[.int .i64 (X : Int), .int .i64 (Y : Int), .string Z] 56) _ (blk_lt ((Below.heap_alloc w2 (.cells #[.int .i64 (X : Int), .int .i64 (Y : Int), .string Z] 56) g2 hl2).trans K2.out))).trans ((Below.heap_alloc w2 (.cells #[.int .i64 (X : Int), .int .i64 (Y : Int), .string Z] 56) g2 hl2).trans K2.out))
   have HNX : Aside0 (∀ j u, ([.int .i64 (X : Int), .int .i64 (Y : Int), .string Z] : List Value)[j]? = some u → ((w2.alloc (.cells #[.int .i64 (X : Int), .int .i64 (Y : Int), .string Z] 56)).alloc (.cells #[.int .i64 (X : Int), .int .i64 (Y : Int), .string Z] 56)).cell? ((⟨w2.heap.size + 1, 0, none⟩ : Addr).add j) = some u) := ⟨by
    have h := new_news (w2.alloc (.cells #[.int .i64 (X : Int), .int .i64 (Y : Int), .string Z] 56)) [.int .i64 (X : Int), .int .i64 (Y : Int), .string Z] 56
    simpa using h⟩
   have HBX : Aside0 (w.heap.size ≤ ((w2.alloc (.cells #[.int .i64 (X : Int), .int .i64 (Y : Int), .string Z] 56)).alloc (.cells #[.int .i64 (X : Int), .int .i64 (Y : Int), .string Z] 56)).heap.size) := ⟨HB3.out.size⟩
   clear hl2
   have hgn : ¬ g1 = g2 := by have := HG.out; omega
   have hgn' : ¬ g2 = g1 := fun e => hgn e.symm
   have hem : (r.extract P r.size).toList.isEmpty = decide (r.size ≤ P) := by
    rw [str_empty_]
    congr 1
    rw [ByteArray.size_extract]
    exact propext (by omega)
   by_cases hz : r.size ≤ P
   ·have hem2 : (r.extract P r.size).toList.isEmpty = true := by rw [hem]; exact decide_eq_true hz
    clear hem
    go_wp2_with (at_builtin; go_loud (refine row_append (w := (w2.alloc (.cells #[.int .i64 (X : Int), .int .i64 (Y : Int), .string Z] 56)).alloc (.cells #[.int .i64 (X : Int), .int .i64 (Y : Int), .string Z] 56)) rfl (.tmp 19) (.tmp 21) 36 rfl 56 Try.t56 (.agg #[.int .i64 0, .int .i64 0, .string { data := #[] }]) 3 32 Try.underlying36 (by kernel_rfl) rfl rfl rfl (by decide) (by decide) w.heap.size (.slice A n c) n (partV l) (by rfl) HR3.out ⟨w2.heap.size + 1, 0, none⟩ 1 1 [.int .i64 (X : Int), .int .i64 (Y : Int), .string Z] (by rfl) rfl HNX.out (by simp [Value.oneCell']) (by simp only [maxLen]; omega) (by omega) HBX.out ?_); intro v1 w6 hR6 hG6 hO6 hF6; obtain ⟨g6, o6, c6, rfl, hb6, hn6, hc6, hx6⟩ := hR6.some_ (by omega); have k16 := blk_grown K13.out hG6 (fun e => HR3.out.ne K13.out (by decide) e.symm); have k26 := blk_grown K23.out hG6 (fun e => HR3.out.ne K23.out (by decide) e.symm); have HB6 := Aside0.mk (below_new HB3.out hG6 (fun k hk => (HR3.out.lt hk).2.1)); have HR6 := Aside0.mk hR6; have u1 := blk_cell k16 0; have u1f := blk_frozen k16 0; have u2 := blk_cell k26 0; have u2f := blk_frozen k26 0; simp only [List.getElem?_toArray, List.getElem?_cons_zero, List.getElem?_cons_succ] at u1 u2; have q61 := blk_lt k16; have q62 := blk_lt k26; have HK16 := Aside0.mk k16; have HK26 := Aside0.mk k26; clear hx6 hR6 hG6 hO6 hF6 c1 f1 k16 k26)
    (try simp only [Exit.jump])
    have z1 := blk_set (blk_set HK16.out 0 (.slice (some ⟨g6, o6, none⟩) (n + 1) c6)) 0 (.slice (some ⟨g6, o6, none⟩) (n + 1) c6)
    have Z1 := (Below.heap_setCell _ (⟨g2, 0, none⟩ : Addr) (.int .i64 0) g1 hgn).trans z1
    have z2 := (Below.heap_setCell _ (⟨g1, 0, none⟩ : Addr) (.slice (some ⟨g6, o6, none⟩) (n + 1) c6) g2 hgn').trans ((Below.heap_setCell w6 (⟨g1, 0, none⟩ : Addr) (.slice (some ⟨g6, o6, none⟩) (n + 1) c6) g2 hgn').trans HK26.out)
    have Z2 := blk_set z2 0 (.int .i64 0)
    have hN : n + 1 = (l ++ [partOf r]).length := by rw [List.length_append, HN.out]; rfl
    have hV : partV l ++ [Value.int IntKind.i64 (X : Int), Value.int IntKind.i64 (Y : Int), Value.string Z] = partV (l ++ [partOf r]) := by
     rw [partV_snoc, HXYZ.out.1, HXYZ.out.2.1, HXYZ.out.2.2]
     rfl
    have hR := HR6.out
    rw [hV] at hR
    have e1 := hR.ne HK16.out (by decide)
    have e2 := hR.ne HK26.out (by decide)
    refine split_good s w _ g1 g2 (l ++ [partOf r]) (.slice (some ⟨g6, o6, none⟩) (n + 1) c6) _ ?_ ?_ ?_ ?_ rfl rfl ?_
    ·refine Z1.trans ?_
     simp
    ·refine Z2.trans ?_
     simp
    ·exact ((HB6.out.setCell (p := ⟨g1, 0, none⟩) (show w.heap.size ≤ g1 by have := HG.out; omega) _).setCell (p := ⟨g1, 0, none⟩) (show w.heap.size ≤ g1 by have := HG.out; omega) _).setCell (p := ⟨g2, 0, none⟩) (show w.heap.size ≤ g2 by have := HG.out; omega) _
    ·rw [← hN]
     exact ((hR.setCell (p := ⟨g1, 0, none⟩) _ e1).setCell (p := ⟨g1, 0, none⟩) _ e1).setCell (p := ⟨g2, 0, none⟩) _ e2
    ·refine splitP_ok (by omega) (by omega) ((hH.out.next (by omega) HE.out).done ?_)
     rw [restOf_size, ← HP.out]
     omega
   ·have hem2 : (r.extract P r.size).toList.isEmpty = false := by rw [hem]; exact decide_eq_false hz
    clear hem
    go_wp2_with (at_builtin; go_loud (refine row_append (w := (w2.alloc (.cells #[.int .i64 (X : Int), .int .i64 (Y : Int), .string Z] 56)).alloc (.cells #[.int .i64 (X : Int), .int .i64 (Y : Int), .string Z] 56)) rfl (.tmp 19) (.tmp 21) 36 rfl 56 Try.t56 (.agg #[.int .i64 0, .int .i64 0, .string { data := #[] }]) 3 32 Try.underlying36 (by kernel_rfl) rfl rfl rfl (by decide) (by decide) w.heap.size (.slice A n c) n (partV l) (by rfl) HR3.out ⟨w2.heap.size + 1, 0, none⟩ 1 1 [.int .i64 (X : Int), .int .i64 (Y : Int), .string Z] (by rfl) rfl HNX.out (by simp [Value.oneCell']) (by simp only [maxLen]; omega) (by omega) HBX.out ?_); intro v1 w6 hR6 hG6 hO6 hF6; obtain ⟨g6, o6, c6, rfl, hb6, hn6, hc6, hx6⟩ := hR6.some_ (by omega); have k16 := blk_grown K13.out hG6 (fun e => HR3.out.ne K13.out (by decide) e.symm); have k26 := blk_grown K23.out hG6 (fun e => HR3.out.ne K23.out (by decide) e.symm); have HB6 := Aside0.mk (below_new HB3.out hG6 (fun k hk => (HR3.out.lt hk).2.1)); have HR6 := Aside0.mk hR6; have u1 := blk_cell k16 0; have u1f := blk_frozen k16 0; have u2 := blk_cell k26 0; have u2f := blk_frozen k26 0; simp only [List.getElem?_toArray, List.getElem?_cons_zero, List.getElem?_cons_succ] at u1 u2; have q61 := blk_lt k16; have q62 := blk_lt k26; have HK16 := Aside0.mk k16; have HK26 := Aside0.mk k26; clear hx6 hR6 hG6 hO6 hF6 c1 f1 k16 k26)
    go_step3
    have z1 := blk_set HK16.out 0 (.slice (some ⟨g6, o6, none⟩) (n + 1) c6)
    have z2 := (Below.heap_setCell w6 (⟨g1, 0, none⟩ : Addr) (.slice (some ⟨g6, o6, none⟩) (n + 1) c6) g2 hgn').trans HK26.out
    have hN : n + 1 = (l ++ [partOf r]).length := by rw [List.length_append, HN.out]; rfl
    have hV : partV l ++ [Value.int IntKind.i64 (X : Int), Value.int IntKind.i64 (Y : Int), Value.string Z] = partV (l ++ [partOf r]) := by
     rw [partV_snoc, HXYZ.out.1, HXYZ.out.2.1, HXYZ.out.2.2]
     rfl
    have hR := HR6.out
    rw [hV] at hR
    have e1 := hR.ne HK16.out (by decide)
    have hz1 : (r.extract P r.size).size = r.size - P := by rw [ByteArray.size_extract]; omega
    show (0 : Nat) = 0 ∧ _ ∧ _
    refine ⟨rfl, SplitJ.mk (r.extract P r.size) (l ++ [partOf r]) (.slice (some ⟨g6, o6, none⟩) (n + 1) c6) rfl ⟨?_, ?_⟩ ?_ z2 ?_ ?_ ?_, ?_⟩
    ·omega
    ·omega
    ·refine z1.trans ?_
     simp
    ·exact HB6.out.setCell (p := ⟨g1, 0, none⟩) (show w.heap.size ≤ g1 by have := HG.out; omega) _
    ·rw [← hN]
     exact hR.setCell (p := ⟨g1, 0, none⟩) _ e1
    ·have h := hH.out.next (by omega) HE.out
     rw [restOf, ← HP.out] at h
     exact h
    ·show (r.extract P r.size).size < r.size
     omega
  ·go_wp2_with fail
   (try simp only [Exit.jump])
   refine split_fault s w _ g1 g2 _ v (.int .i64 0) _ ?_ ?_ ?_ ((hB2.block _ (blk_lt hg1.out)).trans hg1.out) ((hB2.block _ (blk_lt hg2.out)).trans hg2.out) (hB.out.trans (hB2.mono hB.out.size)) rfl rfl (splitP_bad (by omega) (by omega) (hH.out.bad (by omega) hE))
   all_goals (have := HG.out; omega)
 ·intro hrest
  go_wp2_with fail
  refine (want_yes 2 _).mono ?_
  rintro e w8 ⟨rfl, hw8⟩
  obtain rfl := hw8.symm
  go_wp2_with fail
  refine (want_yes 60 _).mono ?_
  rintro e w8 ⟨rfl, hw8⟩
  obtain rfl := hw8.symm
  dsimp only
  rename_i K hK
  refine hK _ _ ?_
  refine wpList_nil ?_
  rename_i K2 hK2
  refine hK2 _ _ ?_
  go_wp2_with fail
  go_step3
  rename_i K3 hK3
  refine hK3 _ _ (hrest.out _ _ (SplitJ.mk s [] (.slice none 0 0) rfl ⟨by omega, by simp; omega⟩ ?_ ?_ (((Below.refl _ _).alloc (Nat.le_refl _) _).alloc (by simp) _) (RowV.nil _ _ _ _) (Behind.start s)))
  ·exact (Below.heap_alloc _ _ _ (by simp)).trans (blk_new w _)
  ·have h := blk_new (w.alloc (.cells #[.slice none 0 0] 36)) (.cells #[.int .i64 0] 27)
   simpa using h
theorem split_any (s : ByteArray) (w : World) (h : s.size ≤ 1000000) : Calls Try.prog 17 #[.string s] w (SplitPost s w) := by
 by_cases h1 : 65536 < s.size
 ·exact split_long s w h1 h
 ·by_cases h2 : s.size = 0
  ·rw [size_emptyS h2]
   exact split_none w
  ·exact split_some s w h2 (by omega)
end Go.Proofs.Ytgakmnholegbgaa.B
end
section
namespace Go.Proofs.Ytgakmnholegbgaa.B
open Go.RowKit Go.Proofs.YtgakmnholegbgaaW.PrintWords Go.Proofs.YtgakmnholegbgaaW.PrintLast Go.Proofs.YtgakmnholegbgaaW.PrintMore
set_option linter.unusedVariables false
set_option linter.unusedSimpArgs false
theorem yes_t1 (w : World) (v : Value) : (Instr.typeAssert (.iface 70 v) 67 70 true).run Try.prog w = .ok (.tuple #[v, .bool true]) w := by kernel_rfl
theorem nil_t1 (w : World) : (Instr.typeAssert .nilIface 67 70 true).run Try.prog w = .ok (.tuple #[.agg #[.int .u32 0, .slice none 0 0, .int .u32 0], .bool false]) w := by kernel_rfl
theorem no_t12 (w : World) (v : Value) : (Instr.typeAssert (.iface 72 v) 67 70 true).run Try.prog w = .ok (.tuple #[.agg #[.int .u32 0, .slice none 0 0, .int .u32 0], .bool false]) w := by kernel_rfl
theorem no_t13 (w : World) (v : Value) : (Instr.typeAssert (.iface 75 v) 67 70 true).run Try.prog w = .ok (.tuple #[.agg #[.int .u32 0, .slice none 0 0, .int .u32 0], .bool false]) w := by kernel_rfl
theorem yes_t2 (w : World) (v : Value) : (Instr.typeAssert (.iface 72 v) 67 72 true).run Try.prog w = .ok (.tuple #[v, .bool true]) w := by kernel_rfl
theorem nil_t2 (w : World) : (Instr.typeAssert .nilIface 67 72 true).run Try.prog w = .ok (.tuple #[.agg #[.int .u32 0, .int .u32 0, .int .i64 0, .int .i64 0, .int .i64 0, .slice none 0 0, .slice none 0 0], .bool false]) w := by kernel_rfl
theorem no_t23 (w : World) (v : Value) : (Instr.typeAssert (.iface 75 v) 67 72 true).run Try.prog w = .ok (.tuple #[.agg #[.int .u32 0, .int .u32 0, .int .i64 0, .int .i64 0, .int .i64 0, .slice none 0 0, .slice none 0 0], .bool false]) w := by kernel_rfl
theorem yes_t3 (w : World) (v : Value) : (Instr.typeAssert (.iface 75 v) 67 75 true).run Try.prog w = .ok (.tuple #[v, .bool true]) w := by kernel_rfl
theorem nil_t3 (w : World) : (Instr.typeAssert .nilIface 67 75 true).run Try.prog w = .ok (.tuple #[.agg #[.int .u32 0, .int .u32 0, .slice none 0 0], .bool false]) w := by kernel_rfl
theorem flat_get {α : Type} (f : α → List Value) (m : Nat) (hf : ∀ x, (f x).length = m) : ∀ (l : List α) (i j : Nat) (x : α), l[i]? = some x → j < m → (l.flatMap f)[i * m + j]? = (f x)[j]?
 | [], i, j, x, h, _ => by simp at h
 | y :: l, 0, j, x, h, hj => by
  simp only [List.getElem?_cons_zero, Option.some.injEq] at h
  subst h
  rw [List.flatMap_cons, Nat.zero_mul, Nat.zero_add, List.getElem?_append_left (by rw [hf]; exact hj)]
 | y :: l, i + 1, j, x, h, hj => by
  rw [List.getElem?_cons_succ] at h
  rw [List.flatMap_cons, List.getElem?_append_right (by rw [hf, Nat.add_mul]; omega), hf, show (i + 1) * m + j - m = i * m + j by rw [Nat.add_mul]; omega]
  exact flat_get f m hf l i j x h hj
theorem pV_get {l : List P3} {i : Nat} {x : P3} (h : l[i]? = some x) : (partV l)[i * 3]? = some (.int .i64 x.1) ∧ (partV l)[i * 3 + 1]? = some (.int .i64 x.2.1) ∧ (partV l)[i * 3 + 2]? = some (.string x.2.2) := by
 have k := fun j (hj : j < 3) => flat_get (fun x : P3 => [.int .i64 x.1, .int .i64 x.2.1, .string x.2.2]) 3 (fun _ => rfl) l i j x h hj
 exact ⟨k 0 (by omega), k 1 (by omega), k 2 (by omega)⟩
theorem RowV.other {w w' : World} {base base2 : Nat} {e e2 : TypeId} {sz sz2 : Nat} {v v2 : Value} {n n2 : Nat} {xs xs2 : List Value} (h : RowV w base e sz v n xs) (h2 : RowV w base2 e2 sz2 v2 n2 xs2) (g : w.grownBy w' v2.ownBlock) (hne : e ≠ e2) : RowV w' base e sz v n xs :=
 h.keep (fun k hk _ hs => g.block k (h.lt hk).1 (fun e' => by
  have := (h2.lt e'.symm).2.2
  rw [hs] at this
  injection this with this
  exact hne this))
def FeedPost (s : ByteArray) (near : Int) (w : World) (e : Ending) (w' : World) : Prop := ∃ vR vA, e = .returned (.tuple #[.agg #[vR, vA], .int .i64 (feedP s near).2]) ∧ RowV w' w.heap.size 58 5 vR (feedP s near).1.1.length (repV (feedP s near).1.1) ∧ RowV w' w.heap.size 3 1 vA (feedP s near).1.2.length (iV (feedP s near).1.2) ∧ Below w.heap.size w w'
theorem fb_load (g4 : Nat) (tm : Array Value) (w : World) (u0 u1 x : Value) (t4 : tm[4]?.getD undef = .pointer (some ⟨g4, 0, none⟩)) (t5 : tm[5]?.getD undef = x) (h : w.heap[g4]? = some (.cells #[u0, u1] 26 (0, 0))) :
  (results Try.f8 tm).run Try.prog w = .ok (.tuple #[.agg #[u0, u1], x]) w := by
 have c0 := blk_cell h 0
 have c1 := blk_cell h 1
 simp only [List.getElem?_toArray, List.getElem?_cons_zero, List.getElem?_cons_succ] at c0 c1
 simp [results, Try.results8, go_sem, t4, t5, c0, c1]
theorem fset {w : World} {g4 : Nat} {x0 x1 : Value} (h : w.heap[g4]? = some (.cells #[x0, x1] 26 (0, 0))) (y0 y1 : Value) : ((w.setCell ⟨g4, 0, none⟩ y0).setCell ⟨g4, 1, none⟩ y1).heap[g4]? = some (.cells #[y0, y1] 26 (0, 0)) := blk_set (blk_set h 0 y0) 1 y1
theorem FeedPost.bad {s : ByteArray} {near e : Int} {w w' : World} (h : feedP s near = (([], []), e)) (hB : Below w.heap.size w w') : FeedPost s near w (.returned (.tuple #[.agg #[.slice none 0 0, .slice none 0 0], .int .i64 e])) w' :=
 ⟨.slice none 0 0, .slice none 0 0, by rw [h], by rw [h]; exact RowV.nil _ _ _ _, by rw [h]; exact RowV.nil _ _ _ _, hB⟩
def RRel (w : World) (nf : Int) (l : List P3) (PA : Option Addr) (pc g4 g8 : Nat) (v9 v31 : Value) (wr : World) : Prop := ∃ (i : Nat) (vR vA : Value) (a : Fd), v31 = .int .i64 i ∧ v9 = .int .i64 ((a.2.2 : Nat) : Int) ∧ i ≤ l.length ∧ a.1.length ≤ 65536 * i ∧ a.2.1.length ≤ 65536 * i ∧ a.2.2 ≤ i ∧ Aside0 (FdAt nf l i a) ∧
 Aside0 (wr.heap[g4]? = some (.cells #[.slice none 0 0, .slice none 0 0] 26 (0, 0))) ∧ Aside0 (wr.heap[g8]? = some (.cells #[vR, vA] 26 (0, 0))) ∧ Aside0 (RowV wr w.heap.size 58 5 vR a.1.length (repV a.1)) ∧ Aside0 (RowV wr w.heap.size 3 1 vA a.2.1.length (iV a.2.1)) ∧ Aside0 (RowV wr w.heap.size 56 3 (.slice PA l.length pc) l.length (partV l)) ∧ Aside0 (Below w.heap.size w wr)
set_option maxHeartbeats 16000000 in
set_option maxRecDepth 100000 in
theorem read_any_ (s : ByteArray) (near : Int) (w : World) (hs : s.size ≤ 1000000) (hn : I64 near) (hsz : ∀ x ∈ (splitP s).1, x.2.2.size ≤ 1000000) (hpl : (splitP s).1.length ≤ 65536) : Calls Try.prog 8 #[.string s, .int .i64 near] w (FeedPost s near w) := by
 obtain ⟨nf, hnf⟩ : ∃ n, n = nearF near := ⟨_, rfl⟩
 have hnI : I64 nf := by rw [hnf]; unfold nearF I64; omega
 obtain ⟨⟨l, E⟩, hSP⟩ : ∃ p, p = splitP s := ⟨_, rfl⟩
 rw [← hSP] at hsz hpl
 dsimp only at hsz hpl
 have HSZ := Aside0.mk hsz
 have HSP := Aside0.mk hSP
 have HNF := Aside0.mk hnf
 have CS := Aside0.mk (fun w => split_any s w hs)
 clear hsz hSP
 go_enter Try.func8, Try.ntmps8
 go_wp2_with fail
 rw [show min (max near 0) 1125899906842624 = nf from hnf.symm]
 clear hnf
 have K4 := Aside0.mk (blk_new w (.cells #[.slice none 0 0, .slice none 0 0] 26))
 have HB := Aside0.mk ((Below.refl w.heap.size w).alloc (Nat.le_refl _) (.cells #[.slice none 0 0, .slice none 0 0] 26))
 obtain ⟨g4, hg4⟩ : ∃ g, g = w.heap.size := ⟨_, rfl⟩
 rw [← hg4] at K4 ⊢
 have hwg4 : w.heap.size ≤ g4 := Nat.le_of_eq hg4.symm
 clear hg4
 refine (CS.out _).mono ?_
 rintro e w2 ⟨vP, rfl, hP, hB2⟩
 have hsl := HB.out.size
 rw [← HSP.out] at hP ⊢
 dsimp only at hP ⊢
 have HP := Aside0.mk (hP.low hsl)
 replace K4 := Aside0.mk ((hB2.block g4 (blk_lt K4.out)).trans K4.out)
 replace HB := Aside0.mk (HB.out.trans (hB2.mono hsl))
 clear hP hB2 hsl CS
 obtain ⟨PA, pc, rfl, -, -⟩ := HP.out.form
 have c0 := blk_cell K4.out 0
 have c1 := blk_cell K4.out 1
 simp only [List.getElem?_toArray, List.getElem?_cons_zero, List.getElem?_cons_succ] at c0 c1
 have f0 := blk_frozen K4.out 0
 have f1 := blk_frozen K4.out 1
 by_cases z : E = 0
 ·have q1 : (E != 0) = false := by simp [z]
  have hE : (splitP s).2 = 0 := by rw [← HSP.out]; exact z
  have HE := Aside0.mk hE
  have HSL : Aside0 ((splitP s).1 = l) := ⟨by rw [← HSP.out]⟩
  clear hE z
  go_wp2_with fail
  clear c0 c1 f0 f1
  have hw2s := HB.out.size
  have h4l := blk_lt K4.out
  have n48 : g4 ≠ w2.heap.size := by omega
  have K8 := Aside0.mk (blk_new w2 (.cells #[.slice none 0 0, .slice none 0 0] 26))
  replace K4 := Aside0.mk (gb_blk (World.grownBy_alloc w2 (.cells #[.slice none 0 0, .slice none 0 0] 26) none) K4.out (fun k hk => by cases hk))
  replace HP := Aside0.mk (HP.out.alloc (.cells #[.slice none 0 0, .slice none 0 0] 26))
  replace HB := Aside0.mk (HB.out.alloc HB.out.size (.cells #[.slice none 0 0, .slice none 0 0] 26))
  obtain ⟨g8, hg8⟩ : ∃ g, g = w2.heap.size := ⟨_, rfl⟩
  rw [← hg8] at K8 n48 hw2s ⊢
  have hwg8 : w.heap.size ≤ g8 := by omega
  clear h4l hw2s
  clear hg8
  generalize w2.alloc (.cells #[.slice none 0 0, .slice none 0 0] 26) = w3 at *
  have HAt0 := Aside0.mk (FdAt.start nf l)
  go_loopw [9, 11, 12, 13, 14, 15, 16, 31] (fun v9 _ _ _ _ _ _ v31 wr => RRel w nf l PA pc g4 g8 v9 v31 wr) (fun _ _ _ _ _ _ _ v _ => l.length - (intOf v).toNat)
  case atStart => exact ⟨0, .slice none 0 0, .slice none 0 0, fdNil, rfl, rfl, by omega, by simp [fdNil], by simp [fdNil], by simp [fdNil], HAt0, K4, K8, ⟨RowV.nil _ _ _ _⟩, ⟨RowV.nil _ _ _ _⟩, HP, HB⟩
  case round =>
   clear K4 K8 HP HB HAt0
   obtain ⟨i, vR, vA, a, rfl, rfl, hi, hl1, hl2, hk, HAt, K4, K8, HR, HA, HP, HB⟩ := hrel
   by_cases hlt : i < l.length
   ·have q4 : decide ((i : Int) < (l.length : Int)) = true := decide_eq_true (by omega)
    obtain ⟨⟨x1, x2, x3⟩, hx⟩ : ∃ x, l[i]? = some x := ⟨l[i]'hlt, List.getElem?_eq_getElem hlt⟩
    obtain ⟨pa, po, pc', e_, _, _, _, hxa⟩ := HP.out.some_ (by omega)
    injection e_ with e_ _ e2_
    subst e_
    subst e2_
    have hsx := HSZ.out _ (List.mem_of_getElem? hx)
    obtain ⟨u0, u1, u2⟩ := pV_get hx
    dsimp only at hsx u0 u1 u2
    replace u0 := hxa _ _ u0
    replace u1 := hxa _ _ u1
    replace u2 := hxa _ _ u2
    rw [← Nat.add_assoc] at u1 u2
    have i0 : (0 : Int) ≤ (i : Int) := by omega
    have i1 : (i : Int) < (l.length : Int) := by omega
    have HXI := Aside0.mk hx
    have CDD := Aside0.mk (fun w => decoded_any (x1, x2, x3) w hsx)
    dsimp only at CDD
    clear hx hxa
    go_wp2_with fail
    refine (CDD.out _).mono ?_
    rintro e w4 ⟨v, n, rfl, hT, hB4⟩
    have hz : wr.heap.size ≤ (wr.alloc (.cells #[.int .i64 x1, .int .i64 x2, .string x3] 56)).heap.size := by simp
    have B0 := Aside0.mk (((Below.refl wr.heap.size wr).alloc (Nat.le_refl _) (.cells #[.int .i64 x1, .int .i64 x2, .string x3] 56)).trans (hB4.mono hz))
    have hbw : w.heap.size ≤ (wr.alloc (.cells #[.int .i64 x1, .int .i64 x2, .string x3] 56)).heap.size := Nat.le_trans HB.out.size hz
    replace K4 := Aside0.mk ((B0.out.block g4 (blk_lt K4.out)).trans K4.out)
    replace K8 := Aside0.mk ((B0.out.block g8 (blk_lt K8.out)).trans K8.out)
    replace HR := Aside0.mk (HR.out.below B0.out)
    replace HA := Aside0.mk (HA.out.below B0.out)
    replace HP := Aside0.mk (HP.out.below B0.out)
    replace HB := Aside0.mk (HB.out.trans (B0.out.mono HB.out.size))
    clear u0 u1 u2 B0 hz hB4 CDD hsx
    generalize wr.alloc (.cells #[.int .i64 x1, .int .i64 x2, .string x3] 56) = wq at *
    cases hT with
    | none_ h hv he =>
     subst hv he
     have HAn := Aside0.mk (HAt.out.next HXI.out (fd_none h))
     clear h
     have n1 := nil_t1
     have n2 := nil_t2
     have n3 := nil_t3
     go_wp2_with fail
     clear n1 n2 n3
     rw [Fd.add_nil] at HAn
     exact ⟨⟨i + 1, vR, vA, a, by simp, rfl, by omega, by omega, by omega, by omega, HAn, K4, K8, HR, HA, HP, HB⟩, by simp [intOf]; omega⟩
    | one h vb L hv hL hl he =>
     obtain ⟨⟨⟨S, Bs, st⟩, E2⟩, hC⟩ : ∃ c, c = ccfbP x3 := ⟨_, rfl⟩
     dsimp only at hv hl he h
     rw [← hC] at hv hl he
     dsimp only at hv hl he
     subst hv he hl
     replace hL := hL.low hbw
     obtain ⟨BA, bc, rfl, -, -⟩ := hL.1.form
     by_cases hz : n = 0
     ·have HC := Aside0.mk hC
      have HH := Aside0.mk h
      have hE : (ccfbP x3).2 = 0 := by rw [← hC]; exact hz
      obtain ⟨f1, f2, f3⟩ := ccfb_facts hE
      rw [← hC] at f1 f2 f3
      dsimp only at f1 f2 f3
      rw [List.length_map] at f1
      have hoB : fdOne nf (x1, x2, x3) = .ok (repsB (fromP st nf) (L.map (·.1)), [], 1) := by
       rw [fd_one1 h hE, ← hC]
      have hlo := fdOne_le hoB
      dsimp only at hlo
      have HAn := Aside0.mk (HAt.out.next HXI.out hoB)
      have HF2 : Aside0 (∀ x ∈ L, (0 ≤ x.1.2.1 ∧ x.1.2.1 ≤ 65535) ∧ x.1.2.2.length ≤ 4096 ∧ ∀ m ∈ x.1.2.2, 0 ≤ m.2.2 ∧ m.2.2 ≤ 8191) := ⟨fun x hx => f2 x.1 (List.mem_map_of_mem hx)⟩
      have q5 : (n != 0) = false := by simp [hz]
      have HL := Aside0.mk hL
      have HZ := Aside0.mk hz
      clear hC h hE hoB f2 hL hz
      have n1 := yes_t1
      go_wp2_with fail
      clear n1
      replace K4 := Aside0.mk (gb_blk (World.grownBy_alloc w4 (.cells #[.int .u32 S, .slice BA L.length bc, .int .u32 st] 70) none) K4.out (fun k hk => by cases hk))
      replace K8 := Aside0.mk (gb_blk (World.grownBy_alloc w4 (.cells #[.int .u32 S, .slice BA L.length bc, .int .u32 st] 70) none) K8.out (fun k hk => by cases hk))
      replace HR := Aside0.mk (HR.out.alloc (.cells #[.int .u32 S, .slice BA L.length bc, .int .u32 st] 70))
      replace HA := Aside0.mk (HA.out.alloc (.cells #[.int .u32 S, .slice BA L.length bc, .int .u32 st] 70))
      replace HP := Aside0.mk (HP.out.alloc (.cells #[.int .u32 S, .slice BA L.length bc, .int .u32 st] 70))
      replace HL := Aside0.mk (HL.out.alloc (.cells #[.int .u32 S, .slice BA L.length bc, .int .u32 st] 70))
      replace HB := Aside0.mk (HB.out.alloc HB.out.size (.cells #[.int .u32 S, .slice BA L.length bc, .int .u32 st] 70))
      generalize w4.alloc (.cells #[.int .u32 S, .slice BA L.length bc, .int .u32 st] 70) = wv at *
      refine (first_any _ g8 w.heap.size vR vA _ a.1 S st nf L K8.out hwg8 HR.out HL.out f3 hnI (by omega) HF2.out (by omega)).mono ?_
      rintro e w6 ⟨rfl, vR2, K8n, HRn, HBn, HFr⟩
      obtain ⟨b', hb⟩ : ∃ b' : Fd, b' = (repsB (fromP st nf) (L.map (·.1)), [], 1) := ⟨_, rfl⟩
      rw [← hb] at HAn
      obtain ⟨a', ha⟩ : ∃ a', a' = a.add b' := ⟨_, rfl⟩
      rw [← ha] at HAn
      have e1 : a'.1 = a.1 ++ (repsB (fromP st nf) (L.map (·.1))) := by rw [ha, hb]; rfl
      have e2 : a'.2.1 = a.2.1 := by rw [ha, hb]; simp [Fd.add]
      have e3 : a'.2.2 = a.2.2 + 1 := by rw [ha, hb]; rfl
      have e4 : a'.1.length = a.1.length + b'.1.length := by rw [ha]; simp [Fd.add]
      have e5 : b'.1.length ≤ 65536 := by rw [hb]; exact hlo
      replace K4 := Aside0.mk (HFr.blk K4.out (by decide) n48)
      replace HA := Aside0.mk (HFr.row HA.out (by decide) (HA.out.ne K8.out (by decide)))
      replace HP := Aside0.mk (HFr.row HP.out (by decide) (HP.out.ne K8.out (by decide)))
      replace HB := Aside0.mk (HB.out.trans HBn)
      replace HR := Aside0.mk HRn
      replace K8 := Aside0.mk K8n
      have E1 := Aside0.mk e1
      have E2_ := Aside0.mk e2
      have E3 := Aside0.mk e3
      clear e1 e2 e3 ha hb HFr HRn HBn K8n
      go_wp2_with fail
      exact ⟨⟨i + 1, vR2, vA, a', by simp, by rw [E3.out]; simp, by omega, by omega, by rw [E2_.out]; omega, by rw [E3.out]; omega, HAn, K4, K8, ⟨by rw [E1.out]; exact HR.out⟩, ⟨by rw [E2_.out]; exact HA.out⟩, HP, HB⟩, by simp [intOf]; omega⟩
     ·have hE : (ccfbP x3).2 ≠ 0 := by rw [← hC]; exact hz
      have HFP : Aside0 (feedP s near = (([], []), n)) := ⟨feedP_bad HE.out (by rw [HSL.out, ← HNF.out]; exact HAt.out.bad HXI.out (by rw [fd_bad1 h hE, ← hC]))⟩
      have q5 : (n != 0) = true := by simp [hz]
      clear hC h hE hz hL
      have c0 := blk_cell K4.out 0
      have c1 := blk_cell K4.out 1
      simp only [List.getElem?_toArray, List.getElem?_cons_zero, List.getElem?_cons_succ] at c0 c1
      have f0 := blk_frozen K4.out 0
      have f1 := blk_frozen K4.out 1
      go_wp2_with fail
      (try simp only [Exit.inBlock, Exit.then])
      refine bodyPost_ret (fb_load g4 _ _ _ _ _ rfl rfl (fset K4.out (.slice none 0 0) (.slice none 0 0))) rfl ?_
      exact FeedPost.bad HFP.out ((HB.out.setCell (p := ⟨g4, 0, none⟩) hwg4 _).setCell (p := ⟨g4, 1, none⟩) hwg4 _)
    | two h vS vD hv hS hD he =>
     obtain ⟨⟨⟨sd, md, fs, bs, ct, sl, dl⟩, E2⟩, hC⟩ : ∃ c, c = twccP x3 := ⟨_, rfl⟩
     dsimp only at hv hS hD he h
     rw [← hC] at hv hS hD he
     dsimp only at hv hS hD he
     subst hv he
     replace hS := hS.low hbw
     replace hD := hD.low hbw
     obtain ⟨SA, sc, rfl, -, -⟩ := hS.form
     obtain ⟨DA, dc, rfl, -, -⟩ := hD.form
     by_cases hz : n = 0
     ·have HC := Aside0.mk hC
      have HH := Aside0.mk h
      have hE : (twccP x3).2 = 0 := by rw [← hC]; exact hz
      obtain ⟨f1, f2, f3, f4⟩ := twcc_facts hE
      rw [← hC] at f1 f2 f3 f4
      dsimp only at f1 f2 f3 f4
      have hoB : fdOne nf (x1, x2, x3) = .ok (reps2 fs (baseP nf bs) sl dl sl.length, [], 1) := by
       rw [fd_one2 h hE, ← hC]
      have hlo := fdOne_le hoB
      dsimp only at hlo
      have HAn := Aside0.mk (HAt.out.next HXI.out hoB)
      have q5 : (n != 0) = false := by simp [hz]
      have HS := Aside0.mk hS
      have HD := Aside0.mk hD
      have HZ := Aside0.mk hz
      have HF2 := Aside0.mk f2
      clear hC h hE hoB f2 hS hD hz
      have n1 := no_t12
      have n2 := yes_t2
      go_wp2_with fail
      clear n1 n2
      replace K4 := Aside0.mk (gb_blk (World.grownBy_alloc w4 (.cells #[.int .u32 sd, .int .u32 md, .int .i64 fs, .int .i64 bs, .int .i64 ct, .slice SA sl.length sc, .slice DA dl.length dc] 72) none) K4.out (fun k hk => by cases hk))
      replace K8 := Aside0.mk (gb_blk (World.grownBy_alloc w4 (.cells #[.int .u32 sd, .int .u32 md, .int .i64 fs, .int .i64 bs, .int .i64 ct, .slice SA sl.length sc, .slice DA dl.length dc] 72) none) K8.out (fun k hk => by cases hk))
      replace HR := Aside0.mk (HR.out.alloc (.cells #[.int .u32 sd, .int .u32 md, .int .i64 fs, .int .i64 bs, .int .i64 ct, .slice SA sl.length sc, .slice DA dl.length dc] 72))
      replace HA := Aside0.mk (HA.out.alloc (.cells #[.int .u32 sd, .int .u32 md, .int .i64 fs, .int .i64 bs, .int .i64 ct, .slice SA sl.length sc, .slice DA dl.length dc] 72))
      replace HP := Aside0.mk (HP.out.alloc (.cells #[.int .u32 sd, .int .u32 md, .int .i64 fs, .int .i64 bs, .int .i64 ct, .slice SA sl.length sc, .slice DA dl.length dc] 72))
      replace HS := Aside0.mk (HS.out.alloc (.cells #[.int .u32 sd, .int .u32 md, .int .i64 fs, .int .i64 bs, .int .i64 ct, .slice SA sl.length sc, .slice DA dl.length dc] 72))
      replace HD := Aside0.mk (HD.out.alloc (.cells #[.int .u32 sd, .int .u32 md, .int .i64 fs, .int .i64 bs, .int .i64 ct, .slice SA sl.length sc, .slice DA dl.length dc] 72))
      replace HB := Aside0.mk (HB.out.alloc HB.out.size (.cells #[.int .u32 sd, .int .u32 md, .int .i64 fs, .int .i64 bs, .int .i64 ct, .slice SA sl.length sc, .slice DA dl.length dc] 72))
      generalize w4.alloc (.cells #[.int .u32 sd, .int .u32 md, .int .i64 fs, .int .i64 bs, .int .i64 ct, .slice SA sl.length sc, .slice DA dl.length dc] 72) = wv at *
      refine (second_any _ g8 w.heap.size vR vA _ _ a.1 sd md fs bs ct nf sl dl K8.out hwg8 HR.out HS.out HD.out HF2.out f3 f4 hnI f1 (by omega)).mono ?_
      rintro e w6 ⟨rfl, vR2, K8n, HRn, HBn, HFr⟩
      obtain ⟨b', hb⟩ : ∃ b' : Fd, b' = (reps2 fs (baseP nf bs) sl dl sl.length, [], 1) := ⟨_, rfl⟩
      rw [← hb] at HAn
      obtain ⟨a', ha⟩ : ∃ a', a' = a.add b' := ⟨_, rfl⟩
      rw [← ha] at HAn
      have e1 : a'.1 = a.1 ++ (reps2 fs (baseP nf bs) sl dl sl.length) := by rw [ha, hb]; rfl
      have e2 : a'.2.1 = a.2.1 := by rw [ha, hb]; simp [Fd.add]
      have e3 : a'.2.2 = a.2.2 + 1 := by rw [ha, hb]; rfl
      have e4 : a'.1.length = a.1.length + b'.1.length := by rw [ha]; simp [Fd.add]
      have e5 : b'.1.length ≤ 65536 := by rw [hb]; exact hlo
      replace K4 := Aside0.mk (HFr.blk K4.out (by decide) n48)
      replace HA := Aside0.mk (HFr.row HA.out (by decide) (HA.out.ne K8.out (by decide)))
      replace HP := Aside0.mk (HFr.row HP.out (by decide) (HP.out.ne K8.out (by decide)))
      replace HB := Aside0.mk (HB.out.trans HBn)
      replace HR := Aside0.mk HRn
      replace K8 := Aside0.mk K8n
      have E1 := Aside0.mk e1
      have E2_ := Aside0.mk e2
      have E3 := Aside0.mk e3
      clear e1 e2 e3 ha hb HFr HRn HBn K8n
      go_wp2_with fail
      exact ⟨⟨i + 1, vR2, vA, a', by simp, by rw [E3.out]; simp, by omega, by omega, by rw [E2_.out]; omega, by rw [E3.out]; omega, HAn, K4, K8, ⟨by rw [E1.out]; exact HR.out⟩, ⟨by rw [E2_.out]; exact HA.out⟩, HP, HB⟩, by simp [intOf]; omega⟩
     ·have hE : (twccP x3).2 ≠ 0 := by rw [← hC]; exact hz
      have HFP : Aside0 (feedP s near = (([], []), n)) := ⟨feedP_bad HE.out (by rw [HSL.out, ← HNF.out]; exact HAt.out.bad HXI.out (by rw [fd_bad2 h hE, ← hC]))⟩
      have q5 : (n != 0) = true := by simp [hz]
      clear hC h hE hz hS hD
      have c0 := blk_cell K4.out 0
      have c1 := blk_cell K4.out 1
      simp only [List.getElem?_toArray, List.getElem?_cons_zero, List.getElem?_cons_succ] at c0 c1
      have f0 := blk_frozen K4.out 0
      have f1 := blk_frozen K4.out 1
      go_wp2_with fail
      (try simp only [Exit.inBlock, Exit.then])
      refine bodyPost_ret (fb_load g4 _ _ _ _ _ rfl rfl (fset K4.out (.slice none 0 0) (.slice none 0 0))) rfl ?_
      exact FeedPost.bad HFP.out ((HB.out.setCell (p := ⟨g4, 0, none⟩) hwg4 _).setCell (p := ⟨g4, 1, none⟩) hwg4 _)
    | three h vl hv hl he =>
     obtain ⟨⟨sd, md, ls, E2⟩, hC⟩ : ∃ c, c = nackDec x3 := ⟨_, rfl⟩
     dsimp only at hv hl he h
     rw [← hC] at hv hl he
     dsimp only at hv hl he
     subst hv he
     replace hl := hl.low hbw
     obtain ⟨LA, lc, rfl, -, -⟩ := hl.form
     by_cases hz : n = 0
     ·have hE : (nackDec x3).2.2.2 = 0 := by rw [← hC]; exact hz
      obtain ⟨f1, f2⟩ := nack_facts hE
      rw [← hC] at f1 f2
      dsimp only at f1 f2
      have hoB : fdOne nf (x1, x2, x3) = .ok ([], ls, 1) := by
       rw [fd_one3 h hE, ← hC]
      have HAn := Aside0.mk (HAt.out.next HXI.out hoB)
      have q5 : (n != 0) = false := by simp [hz]
      have HC := Aside0.mk hC
      have HH := Aside0.mk h
      have HLs := Aside0.mk (show RowV w4 w.heap.size 3 1 (.slice LA ls.length lc) ls.length (iV ls) from hl)
      have HZ := Aside0.mk hz
      clear hC h hE hoB hl hz
      have n1 := no_t13
      have n2 := no_t23
      have n3 := yes_t3
      obtain ⟨AA, ac, rfl, -, -⟩ := HA.out.form
      have c1 := blk_cell K8.out 1
      have f1c := blk_frozen K8.out 1
      simp only [List.getElem?_toArray, List.getElem?_cons_zero, List.getElem?_cons_succ] at c1
      obtain ⟨la, lo, lc', e_, _, _, _, hxl⟩ := HLs.out.some_ f1
      injection e_ with e_ _ e2_
      subst e_
      subst e2_
      have X4 := Aside0.mk (gb_blk (World.grownBy_alloc w4 (.cells #[.int .u32 sd, .int .u32 md, .slice (some ⟨la, lo, none⟩) ls.length lc] 75) none) K4.out (fun k hk => by cases hk))
      have X8 := Aside0.mk (gb_blk (World.grownBy_alloc w4 (.cells #[.int .u32 sd, .int .u32 md, .slice (some ⟨la, lo, none⟩) ls.length lc] 75) none) K8.out (fun k hk => by cases hk))
      have XR := Aside0.mk (HR.out.alloc (.cells #[.int .u32 sd, .int .u32 md, .slice (some ⟨la, lo, none⟩) ls.length lc] 75))
      have XA := Aside0.mk (HA.out.alloc (.cells #[.int .u32 sd, .int .u32 md, .slice (some ⟨la, lo, none⟩) ls.length lc] 75))
      have XP := Aside0.mk (HP.out.alloc (.cells #[.int .u32 sd, .int .u32 md, .slice (some ⟨la, lo, none⟩) ls.length lc] 75))
      have XL := Aside0.mk (HLs.out.alloc (.cells #[.int .u32 sd, .int .u32 md, .slice (some ⟨la, lo, none⟩) ls.length lc] 75))
      have XB := Aside0.mk (HB.out.alloc HB.out.size (.cells #[.int .u32 sd, .int .u32 md, .slice (some ⟨la, lo, none⟩) ls.length lc] 75))
      have HNX : Aside0 (∀ j u, (iV ls)[j]? = some u → (w4.alloc (.cells #[.int .u32 sd, .int .u32 md, .slice (some ⟨la, lo, none⟩) ls.length lc] 75)).cell? ((⟨la, lo, none⟩ : Addr).add j) = some u) := ⟨fun j u hj => by
       obtain ⟨la2, lo2, lc2, e_, _, _, _, hx2⟩ := XL.out.some_ f1
       injection e_ with e_ _ _
       injection e_ with e_
       injection e_ with e1 e2 _
       subst e1 e2
       rw [Addr.add_lit]
       exact hx2 j u hj⟩
      have HBX : Aside0 (w.heap.size ≤ (w4.alloc (.cells #[.int .u32 sd, .int .u32 md, .slice (some ⟨la, lo, none⟩) ls.length lc] 75)).heap.size) := ⟨XB.out.size⟩
      have h8l := blk_lt K8.out
      clear hxl K4 K8 HR HA HP HB HLs
      obtain ⟨ag, hag⟩ : ∃ x, x = a.2.1 := ⟨_, rfl⟩
      rw [← hag] at hl2 c1 X8 XA
      have HAG := Aside0.mk hag
      clear hag
      go_wp2_with (at_builtin; go_loud (refine row_append (w := w4.alloc (.cells #[.int .u32 sd, .int .u32 md, .slice (some ⟨la, lo, none⟩) ls.length lc] 75)) rfl (.tmp 65) (.tmp 67) 24 rfl 3 Try.t3 (.int .i64 0) 1 8 Try.underlying24 (by kernel_rfl) rfl rfl rfl (by decide) (by decide) w.heap.size (.slice AA ag.length ac) ag.length (iV ag) (by rfl) XA.out ⟨la, lo, none⟩ ls.length lc (iV ls) (by rfl) (by rw [iV_length, Nat.mul_one]) HNX.out (iV_one ls) (by simp only [maxLen]; omega) (by omega) HBX.out ?_); intro v1 w6 hR6 hG6 hO6 hF6; obtain ⟨g6, o6, c6_, rfl, hb6, hn6, hc6, hx6⟩ := hR6.some_ (by omega); have Y8 := gb_blkR hG6 XA.out X8.out (by decide); have Y4 := Aside0.mk (gb_blkR hG6 XA.out X4.out (by decide)); have YR := Aside0.mk (XR.out.other XA.out hG6 (by decide)); have YP := Aside0.mk (XP.out.other XA.out hG6 (by decide)); have YB := Aside0.mk (below_base XB.out hG6 (fun k hk => (XA.out.lt hk).2.1) HBX.out); have u1 := blk_cell Y8 1; have u1f := blk_frozen Y8 1; simp only [List.getElem?_toArray, List.getElem?_cons_zero, List.getElem?_cons_succ] at u1; have HA6 := Aside0.mk hR6; have HY8 := Aside0.mk Y8; clear Y8 hx6 hR6 hG6 hO6 hF6 c1 f1c)
      clear n1 n2 n3
      have e_ := blk_set HY8.out 1 (.slice (some ⟨g6, o6, none⟩) (ag.length + ls.length) c6_)
      simp only [List.setIfInBounds_toArray, List.set_cons_zero, List.set_cons_succ] at e_
      obtain ⟨a', ha⟩ : ∃ a', a' = a.add ([], ls, 1) := ⟨_, rfl⟩
      rw [← ha] at HAn
      have e1 : a'.1 = a.1 := by rw [ha]; simp [Fd.add]
      have e2 : a'.2.1 = ag ++ ls := by rw [ha, HAG.out]; simp [Fd.add]
      have e3 : a'.2.2 = a.2.2 + 1 := by rw [ha]; simp [Fd.add]
      refine ⟨⟨i + 1, vR, .slice (some ⟨g6, o6, none⟩) (ag.length + ls.length) c6_, a', by simp, by rw [e3]; simp, by omega, by rw [e1]; omega, by rw [e2, List.length_append]; omega, by omega, HAn, ⟨(Below.heap_setCell w6 (⟨g8, 1, none⟩ : Addr) _ g4 n48).trans Y4.out⟩, ⟨e_⟩, ⟨?_⟩, ⟨?_⟩, ⟨YP.out.setCell (p := ⟨g8, 1, none⟩) _ (YP.out.ne HY8.out (by decide))⟩, ⟨YB.out.setCell (p := ⟨g8, 1, none⟩) hwg8 _⟩⟩, by simp [intOf]; omega⟩
      ·rw [e1]
       exact YR.out.setCell (p := ⟨g8, 1, none⟩) _ (YR.out.ne HY8.out (by decide))
      ·rw [e2, List.length_append, iV_append]
       exact HA6.out.setCell (p := ⟨g8, 1, none⟩) _ (HA6.out.ne HY8.out (by decide))
     ·have hE : (nackDec x3).2.2.2 ≠ 0 := by rw [← hC]; exact hz
      have HFP : Aside0 (feedP s near = (([], []), n)) := ⟨feedP_bad HE.out (by rw [HSL.out, ← HNF.out]; exact HAt.out.bad HXI.out (by rw [fd_bad3 h hE, ← hC]))⟩
      have q5 : (n != 0) = true := by simp [hz]
      clear hC h hE hz hl
      have c0 := blk_cell K4.out 0
      have c1 := blk_cell K4.out 1
      simp only [List.getElem?_toArray, List.getElem?_cons_zero, List.getElem?_cons_succ] at c0 c1
      have f0 := blk_frozen K4.out 0
      have f1 := blk_frozen K4.out 1
      go_wp2_with fail
      (try simp only [Exit.inBlock, Exit.then])
      refine bodyPost_ret (fb_load g4 _ _ _ _ _ rfl rfl (fset K4.out (.slice none 0 0) (.slice none 0 0))) rfl ?_
      exact FeedPost.bad HFP.out ((HB.out.setCell (p := ⟨g4, 0, none⟩) hwg4 _).setCell (p := ⟨g4, 1, none⟩) hwg4 _)
   ·have q4 : decide ((i : Int) < (l.length : Int)) = false := decide_eq_false (by omega)
    have hil : i = l.length := by omega
    rw [hil] at HAt
    obtain ⟨r, ag, kd⟩ := a
    dsimp only at hl1 hl2 hk HR HA ⊢
    have HFP := Aside0.mk (feedP_ok HE.out (by rw [HSL.out, ← HNF.out]; exact HAt.out.done))
    clear hil HAt
    obtain ⟨RA, rc, rfl, -, -⟩ := HR.out.form
    obtain ⟨AA, ac, rfl, -, -⟩ := HA.out.form
    have c0 := blk_cell K4.out 0
    have c1 := blk_cell K4.out 1
    have d0 := blk_cell K8.out 0
    have d1 := blk_cell K8.out 1
    simp only [List.getElem?_toArray, List.getElem?_cons_zero, List.getElem?_cons_succ] at c0 c1 d0 d1
    have f0 := blk_frozen K4.out 0
    have f1 := blk_frozen K4.out 1
    by_cases hk0 : kd = 0
    ·have q5 : ((kd : Int) == 0) = true := by rw [hk0]; rfl
     replace HFP := Aside0.mk (HFP.out.trans (if_pos hk0))
     clear hk0
     go_wp2_with fail
     (try simp only [Exit.inBlock, Exit.then])
     refine bodyPost_ret (fb_load g4 _ _ _ _ _ rfl rfl (fset K4.out (.slice none 0 0) (.slice none 0 0))) rfl ?_
     exact FeedPost.bad HFP.out ((HB.out.setCell (p := ⟨g4, 0, none⟩) hwg4 _).setCell (p := ⟨g4, 1, none⟩) hwg4 _)
    have q5 : ((kd : Int) == 0) = false := by simp; omega
    replace HFP := Aside0.mk (HFP.out.trans (if_neg hk0))
    by_cases hr0 : 4096 < r.length
    ·have q6 : decide (4096 < (r.length : Int)) = true := decide_eq_true (by omega)
     replace HFP := Aside0.mk (HFP.out.trans (if_pos (.inl hr0)))
     clear hr0
     go_wp2_with fail
     (try simp only [Exit.inBlock, Exit.then])
     refine bodyPost_ret (fb_load g4 _ _ _ _ _ rfl rfl (fset K4.out (.slice none 0 0) (.slice none 0 0))) rfl ?_
     exact FeedPost.bad HFP.out ((HB.out.setCell (p := ⟨g4, 0, none⟩) hwg4 _).setCell (p := ⟨g4, 1, none⟩) hwg4 _)
    have q6 : decide (4096 < (r.length : Int)) = false := decide_eq_false (by omega)
    by_cases ha0 : 4096 < ag.length
    ·have q7 : decide (4096 < (ag.length : Int)) = true := decide_eq_true (by omega)
     replace HFP := Aside0.mk (HFP.out.trans (if_pos (.inr ha0)))
     clear ha0
     go_wp2_with fail
     (try simp only [Exit.inBlock, Exit.then])
     refine bodyPost_ret (fb_load g4 _ _ _ _ _ rfl rfl (fset K4.out (.slice none 0 0) (.slice none 0 0))) rfl ?_
     exact FeedPost.bad HFP.out ((HB.out.setCell (p := ⟨g4, 0, none⟩) hwg4 _).setCell (p := ⟨g4, 1, none⟩) hwg4 _)
    have q7 : decide (4096 < (ag.length : Int)) = false := decide_eq_false (by omega)
    replace HFP := Aside0.mk (HFP.out.trans (if_neg (by omega)))
    clear hr0 ha0 hk0
    go_wp2_with fail
    (try simp only [Exit.inBlock, Exit.then])
    refine bodyPost_ret (fb_load g4 _ _ _ _ _ rfl rfl (fset K4.out (.slice RA r.length rc) (.slice AA ag.length ac))) rfl ?_
    exact ⟨.slice RA r.length rc, .slice AA ag.length ac, by rw [HFP.out]; rfl, by rw [HFP.out]; exact (HR.out.setCell (p := ⟨g4, 0, none⟩) _ (HR.out.ne K4.out (by decide))).setCell (p := ⟨g4, 1, none⟩) _ (HR.out.ne K4.out (by decide)), by rw [HFP.out]; exact (HA.out.setCell (p := ⟨g4, 0, none⟩) _ (HA.out.ne K4.out (by decide))).setCell (p := ⟨g4, 1, none⟩) _ (HA.out.ne K4.out (by decide)), (HB.out.setCell (p := ⟨g4, 0, none⟩) hwg4 _).setCell (p := ⟨g4, 1, none⟩) hwg4 _⟩
 ·have q1 : (E != 0) = true := by simp [z]
  have hE : feedP s near = (([], []), E) := by rw [feedP_split (by rw [← HSP.out]; exact z), ← HSP.out]
  have HE := Aside0.mk hE
  clear hE z
  go_wp2_with fail
  refine bodyPost_ret (fb_load g4 _ _ _ _ _ rfl rfl (fset K4.out (.slice none 0 0) (.slice none 0 0))) rfl ?_
  exact FeedPost.bad HE.out ((HB.out.setCell (p := ⟨g4, 0, none⟩) hwg4 _).setCell (p := ⟨g4, 1, none⟩) hwg4 _)
end Go.Proofs.Ytgakmnholegbgaa.B
end
