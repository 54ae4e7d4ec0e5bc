/- What the law leans on, part 3 of 4: plain laws and walks of this session, and words that a tool of the kit printed for it; what nothing leans on is left out. -/
import Derived.Test.YtgakmnholegbgaaRows
import Derived.Test.YtgakmnholegbgaaProg
import Derived.Below
import Derived.Deep.Draws
import Derived.Deep.AppendLies
import Derived.Maps.AppendAt
import Derived.OwnWalk
import Derived.Laws.BytesArg
import Derived.Laws.MakeOwn
import Derived.Laws.OwnMore
import Derived.Deep.OwnRows
import Derived.Tactics
import Derived.Lib.ConvBytes
import Derived.Laws.Slices
import Derived.WalkKit
import Derived.KernelRfl
import Derived.RowKit3
import Derived.Deep.LoopGhost
import Derived.Deep.QuietTactic
import Derived.BigQuiet
import Derived.WideLaws
import Derived.Deep.DeepCutAuto
import Derived.Deep.CutBlock
import Derived.Deep.RegionHeld3
import Derived.Laws.Rows
import Derived.Lib.AppendStr
import Derived.ArgAppend
import Derived.Laws.IdiomCopy
import Derived.OrdersHeld
import Derived.Laws.BitsLemmas
import Derived.RowKit
import Derived.Laws.StructEq
import Derived.BigRegion
import Derived.WalkMore
import Derived.ScopeJumps
import Derived.Outline
import Derived.Laws.Externs
import Derived.Lib.BitFns
import Derived.Deep.Light
import Derived.Lib.Mul64
import Derived.Lib.Strings
import Derived.Lib.Slices
import Derived.Lib.Small
import Derived.Lib.Walk
import Derived.Laws.Bits64b
import Derived.Lib.UnsafeStr
import Derived.Deep.RegionLaw
import Derived.Deep.RegionWith
import Derived.StillTailTactics
import Derived.Defers
import Derived.Recover
import Derived.Laws.Pointers
import Derived.WalkLawsBesides
import Derived.Laws.DeepStrings4
import Derived.Lib.SmallJoins
import Derived.Deep.Slices
import Derived.Deep.Fields
import Derived.ChangeSame
import Derived.ProofKit
import Derived.OpenShut
import Derived.ShutString
import Derived.ChangeOld
import Derived.SizedLaws
import Derived.Test.YtgakmnholegbgaaQ1b
section
namespace Go.Proofs.Ytgakmnholegbgaa.B
open Go.RowKit Go.Proofs.YtgakmnholegbgaaW.PrintWords Go.Proofs.YtgakmnholegbgaaW.PrintLast Go.Proofs.YtgakmnholegbgaaW.PrintMore
set_option linter.unusedVariables false
set_option linter.unusedSimpArgs false
def FRel (w : World) (p b g4 : Nat) (S st now : Int) (vA : Value) (BA : Option Addr) (bc : Nat) (L : List (B3 × Value)) (R : List R5) (v19 : Value) (wr : World) : Prop := ∃ (j : Nat) (vR : Value), v19 = .int .i64 j ∧ j ≤ L.length ∧ Aside0 (wr.heap[p]? = some (.cells #[vR, vA] 26 (0, 0))) ∧ Aside0 (wr.heap[g4]? = some (.cells #[.int .u32 S, .slice BA L.length bc, .int .u32 st] 70 (0, 0))) ∧
 Aside0 (RowV wr b 58 5 vR (R ++ repsB now ((L.map (·.1)).take j)).length (repV (R ++ repsB now ((L.map (·.1)).take j)))) ∧ Aside0 (BlocksV wr b (.slice BA L.length bc) L) ∧ Aside0 (Below b w wr) ∧ Aside0 (Fr p w wr)
def FRel2 (w : World) (p b g4 g8 : Nat) (S st ss F : Int) (vA : Value) (BA : Option Addr) (bc : Nat) (L : List (B3 × Value)) (MA : Option Addr) (mc : Nat) (ms : List M3) (now : Int) (R : List R5) (v26 : Value) (wr : World) : Prop := ∃ (k : Nat) (vR : Value), v26 = .int .i64 k ∧ k ≤ ms.length ∧ Aside0 (wr.heap[p]? = some (.cells #[vR, vA] 26 (0, 0))) ∧ Aside0 (wr.heap[g4]? = some (.cells #[.int .u32 S, .slice BA L.length bc, .int .u32 st] 70 (0, 0))) ∧
 Aside0 (wr.heap[g8]? = some (.cells #[.int .u32 ss, .int .i64 F, .slice MA ms.length mc] 49 (0, 0))) ∧ Aside0 (RowV wr b 58 5 vR (R ++ repsM now F ms k).length (repV (R ++ repsM now F ms k))) ∧ Aside0 (BlocksV wr b (.slice BA L.length bc) L) ∧ Aside0 (RowV wr b 45 3 (.slice MA ms.length mc) ms.length (metV ms)) ∧ Aside0 (Below b w wr) ∧ Aside0 (Fr p w wr)
def FS (w : World) (p b g4 g8 : Nat) (S st ss F : Int) (vA vR : Value) (BA : Option Addr) (bc : Nat) (L : List (B3 × Value)) (MA : Option Addr) (mc : Nat) (ms : List M3) (X : List R5) (wr : World) : Prop := wr.heap[p]? = some (.cells #[vR, vA] 26 (0, 0)) ∧ wr.heap[g4]? = some (.cells #[.int .u32 S, .slice BA L.length bc, .int .u32 st] 70 (0, 0)) ∧
 wr.heap[g8]? = some (.cells #[.int .u32 ss, .int .i64 F, .slice MA ms.length mc] 49 (0, 0)) ∧ RowV wr b 58 5 vR X.length (repV X) ∧ BlocksV wr b (.slice BA L.length bc) L ∧ RowV wr b 45 3 (.slice MA ms.length mc) ms.length (metV ms) ∧ Below b w wr ∧ Fr p w wr
theorem Fr.blocks {p b : Nat} {w w' : World} {v : Value} {L : List (B3 × Value)} {cs : Array Value} {fr : Nat × Nat} (h : Fr p w w') (hp : w.heap[p]? = some (.cells cs 26 fr)) (hL : BlocksV w b v L) : BlocksV w' b v L := hL.keep (fun k t hs ht => h.heap k t hs (by rcases ht with h | h <;> rw [h] <;> decide) (fun e => by
 subst e
 rw [shape_blk hp] at hs
 injection hs with hs
 subst hs
 rcases ht with h | h
 ·exact absurd h (by decide)
 ·exact absurd h (by decide)))
theorem FS.step {w wr w1 : World} {p b g4 g8 : Nat} {S st ss F : Int} {vA vR : Value} {BA : Option Addr} {bc : Nat} {L : List (B3 × Value)} {MA : Option Addr} {mc : Nat} {ms : List M3} {X : List R5} (h : FS w p b g4 g8 S st ss F vA vR BA bc L MA mc ms X wr) (hbp : b ≤ p) (hb : Below wr.heap.size wr w1) : FS w p b g4 g8 S st ss F vA vR BA bc L MA mc ms X w1 := by
 obtain ⟨h0, h1, h2, h3, h4, h5, h6, h7⟩ := h
 exact ⟨(hb.block p (blk_lt h0)).trans h0, (hb.block g4 (blk_lt h1)).trans h1, (hb.block g8 (blk_lt h2)).trans h2, h3.below hb, h4.below hb, h5.below hb, h6.trans (hb.mono (Nat.le_trans hbp (Nat.le_of_lt (blk_lt h0)))), h7.trans (Fr.of_below hb)⟩
theorem FS.push {w w1 w6 : World} {p b g4 g8 : Nat} {S st ss F : Int} {vA vR v1 : Value} {BA : Option Addr} {bc : Nat} {L : List (B3 × Value)} {MA : Option Addr} {mc : Nat} {ms : List M3} {X : List R5} {x : R5} (h : FS w p b g4 g8 S st ss F vA vR BA bc L MA mc ms X w1) (hbp : b ≤ p) (n4 : g4 ≠ p) (n8 : g8 ≠ p) (hG : w1.grownBy w6 vR.ownBlock) (hR : RowV w6 b 58 5 v1 (X.length + 1) (repV X ++ repC x)) : FS w p b g4 g8 S st ss F vA v1 BA bc L MA mc ms (X ++ [x]) (w6.setCell ⟨p, 0, none⟩ v1) := by
 obtain ⟨h0, h1, h2, h3, h4, h5, h6, h7⟩ := h
 have k0 := gb_blkR hG h3 h0 (by decide)
 have k1 := gb_blkR hG h3 h1 (by decide)
 have k2 := gb_blkR hG h3 h2 (by decide)
 have hF : Fr p w1 w6 := Fr.grown h3 hG
 have hb1 : b ≤ w1.heap.size := Nat.le_trans hbp (Nat.le_of_lt (blk_lt h0))
 have e_ := blk_set k0 0 v1
 simp only [List.setIfInBounds_toArray, List.set_cons_zero, List.set_cons_succ] at e_
 have hM : RowV w6 b 45 3 (.slice MA ms.length mc) ms.length (metV ms) := hF.row h5 (by decide) (h5.ne h0 (by decide))
 refine ⟨e_, (Below.heap_setCell w6 (⟨p, 0, none⟩ : Addr) _ g4 n4).trans k1, (Below.heap_setCell w6 (⟨p, 0, none⟩ : Addr) _ g8 n8).trans k2, ?_, (hF.blocks h0 h4).setCell (p := ⟨p, 0, none⟩) _ k0 (by decide) (by decide), hM.setCell (p := ⟨p, 0, none⟩) _ (h5.ne h0 (by decide)), (below_base h6 hG (fun k hk => (h3.lt hk).2.1) hb1).setCell (p := ⟨p, 0, none⟩) hbp _, (h7.trans hF).trans (Fr.set w6 0 _)⟩
 rw [repV_snoc, List.length_append]
 exact hR.setCell (p := ⟨p, 0, none⟩) _ (hR.ne k0 (by decide))
set_option maxHeartbeats 16000000 in
set_option maxRecDepth 100000 in
theorem first_any (w : World) (p b : Nat) (vR vA vB : Value) (R : List R5) (S st near : Int) (L : List (B3 × Value)) (hp : w.heap[p]? = some (.cells #[vR, vA] 26 (0, 0))) (hbp : b ≤ p) (hR : RowV w b 58 5 vR R.length (repV R)) (hL : BlocksV w b vB L)
  (hst : U32 st) (hn : I64 near) (hl : L.length ≤ 16) (hx : ∀ x ∈ L, (0 ≤ x.1.2.1 ∧ x.1.2.1 ≤ 65535) ∧ x.1.2.2.length ≤ 4096 ∧ ∀ m ∈ x.1.2.2, 0 ≤ m.2.2 ∧ m.2.2 ≤ 8191) (hRl : R.length ≤ 10000000000) :
  Calls Try.prog 19 #[.pointer (some ⟨p, 0, none⟩), .agg #[.int .u32 S, vB, .int .u32 st], .int .i64 near] w (SecPost w p b vA (R ++ repsB (fromP st near) (L.map (·.1)))) := by
 obtain ⟨BA, bc, rfl, -, -⟩ := hL.1.form
 have hpl := blk_lt hp
 obtain ⟨now, hnow⟩ : ∃ a, a = fromP st near := ⟨_, rfl⟩
 have CN := Aside0.mk (fun w => from_any st near hst hn w)
 rw [← hnow] at CN ⊢
 have HNOW := Aside0.mk hnow
 clear hnow
 have HX := Aside0.mk hx
 have HP0 := Aside0.mk hp
 have HR0 := Aside0.mk hR
 have HL0 := Aside0.mk hL
 clear hp hR hL hx
 go_enter Try.func19, Try.ntmps19
 have K4 := Aside0.mk (blk_new w (.cells #[.int .u32 S, .slice BA L.length bc, .int .u32 st] 70))
 have K0 := Aside0.mk (gb_blk (World.grownBy_alloc w (.cells #[.int .u32 S, .slice BA L.length bc, .int .u32 st] 70) none) HP0.out (fun k hk => by cases hk))
 have HR := Aside0.mk (HR0.out.alloc (.cells #[.int .u32 S, .slice BA L.length bc, .int .u32 st] 70))
 have HL := Aside0.mk (HL0.out.alloc (.cells #[.int .u32 S, .slice BA L.length bc, .int .u32 st] 70))
 have HB := Aside0.mk ((Below.refl b w).alloc (Nat.le_trans hbp (Nat.le_of_lt hpl)) (.cells #[.int .u32 S, .slice BA L.length bc, .int .u32 st] 70))
 have HFr := Aside0.mk (Fr.alloc p w (.cells #[.int .u32 S, .slice BA L.length bc, .int .u32 st] 70))
 have n4 : w.heap.size ≠ p := by omega
 have c2 := blk_cell K4.out 2
 simp only [List.getElem?_toArray, List.getElem?_cons_zero, List.getElem?_cons_succ] at c2
 go_wp2_with fail
 refine (CN.out _).mono ?_
 rintro e w2 ⟨rfl, hb2⟩
 obtain ⟨g4, hg4⟩ : ∃ g, g = w.heap.size := ⟨_, rfl⟩
 replace K0 := Aside0.mk ((hb2.block p (blk_lt K0.out)).trans K0.out)
 replace HR := Aside0.mk (HR.out.below hb2)
 replace HL := Aside0.mk (HL.out.below hb2)
 replace HFr := Aside0.mk (HFr.out.trans (Fr.of_below hb2))
 replace HB := Aside0.mk (HB.out.trans (hb2.mono (Nat.le_trans hbp (Nat.le_of_lt (Nat.lt_of_lt_of_le hpl HB.out.size)))))
 replace K4 := Aside0.mk ((hb2.block w.heap.size (blk_lt K4.out)).trans K4.out)
 rw [← hg4] at K4 n4 ⊢
 clear hb2 hg4 CN HP0 HR0 HL0 c2
 have c1 := blk_cell K4.out 1
 simp only [List.getElem?_toArray, List.getElem?_cons_zero, List.getElem?_cons_succ] at c1
 go_wp2_with fail
 go_loopw [8, 9, 10, 11, 19] (fun _ _ _ _ v19 wr => FRel w p b g4 S st now vA BA bc L R v19 wr) (fun _ _ _ _ v _ => L.length - (intOf v).toNat)
 case atStart => exact ⟨0, vR, rfl, by omega, K0, K4, by simpa [repsB] using HR, HL, HB, HFr⟩
 case round =>
  clear K0 K4 HR HL HB HFr c1
  obtain ⟨j, vr, rfl, hj, K0, K4, HR, HL, HB, HFr⟩ := hrel
  by_cases hlt : j < L.length
  ·have q4 : decide ((j : Int) < (L.length : Int)) = true := decide_eq_true (by omega)
   obtain ⟨⟨⟨ss, F, ms⟩, vm⟩, hx⟩ : ∃ x, L[j]? = some x := ⟨L[j]'hlt, List.getElem?_eq_getElem hlt⟩
   obtain ⟨ga, oa, ca, e_, _, _, _, hxa⟩ := HL.out.1.some_ (by omega)
   injection e_ with e_ _ e2_
   subst e_
   subst e2_
   have hmem := List.mem_of_getElem? hx
   obtain ⟨⟨hF0, hF1⟩, hml, hag⟩ := HX.out _ hmem
   have HM := Aside0.mk (HL.out.2 _ hmem)
   dsimp only at hF0 hF1 hml hag HM
   obtain ⟨MA, mc, rfl, -, -⟩ := HM.out.form
   obtain ⟨u0, u1, u2⟩ := blkV_get hx
   replace u0 := hxa _ _ u0
   replace u1 := hxa _ _ u1
   replace u2 := hxa _ _ u2
   rw [← Nat.add_assoc] at u1 u2
   have i0 : (0 : Int) ≤ (j : Int) := by omega
   have i1 : (j : Int) < (L.length : Int) := by omega
   have HXJ := Aside0.mk hx
   have HAG := Aside0.mk hag
   clear hx hxa hag hmem
   go_wp2_with fail
   have O8 := Aside0.mk (blk_new wr (.cells #[.int .u32 ss, .int .i64 F, .slice MA ms.length mc] 49))
   replace K0 := Aside0.mk (gb_blk (World.grownBy_alloc wr (.cells #[.int .u32 ss, .int .i64 F, .slice MA ms.length mc] 49) none) K0.out (fun k hk => by cases hk))
   replace K4 := Aside0.mk (gb_blk (World.grownBy_alloc wr (.cells #[.int .u32 ss, .int .i64 F, .slice MA ms.length mc] 49) none) K4.out (fun k hk => by cases hk))
   replace HR := Aside0.mk (HR.out.alloc (.cells #[.int .u32 ss, .int .i64 F, .slice MA ms.length mc] 49))
   replace HL := Aside0.mk (HL.out.alloc (.cells #[.int .u32 ss, .int .i64 F, .slice MA ms.length mc] 49))
   replace HM := Aside0.mk (HM.out.alloc (.cells #[.int .u32 ss, .int .i64 F, .slice MA ms.length mc] 49))
   have hbr : b ≤ wr.heap.size := Nat.le_trans hbp (Nat.le_trans (Nat.le_of_lt hpl) HB.out.size)
   replace HFr := Aside0.mk (HFr.out.trans (Fr.alloc p wr (.cells #[.int .u32 ss, .int .i64 F, .slice MA ms.length mc] 49)))
   have h8 : wr.heap.size ≠ p := by have := HB.out.size; omega
   replace HB := Aside0.mk (HB.out.alloc hbr (.cells #[.int .u32 ss, .int .i64 F, .slice MA ms.length mc] 49))
   obtain ⟨g8, hg8⟩ : ∃ g, g = wr.heap.size := ⟨_, rfl⟩
   rw [← hg8] at O8 h8 ⊢
   clear hg8 hbr u0 u1 u2
   generalize wr.alloc (.cells #[.int .u32 ss, .int .i64 F, .slice MA ms.length mc] 49) = w8 at *
   obtain ⟨R', hR'⟩ : ∃ R', R' = R ++ repsB now ((L.map (·.1)).take j) := ⟨_, rfl⟩
   rw [← hR'] at HR
   have HRR := Aside0.mk hR'
   clear hR'
   go_loopw [9, 10, 11, 26] (fun _ _ _ v26 wr => FRel2 w p b g4 g8 S st ss F vA (some ⟨ga, oa, none⟩) bc L MA mc ms now R' v26 wr) (fun _ _ _ v _ => ms.length - (intOf v).toNat)
   case atStart => exact ⟨0, vr, rfl, by omega, K0, K4, O8, by simpa [repsM] using HR, HL, HM, HB, HFr⟩
   case round =>
    clear K0 K4 O8 HR HL HM HB HFr
    obtain ⟨k, vr2, rfl, hk, K0, K4, K8, HR, HL, HM, HB, HFr⟩ := hrel
    by_cases hkt : k < ms.length
    ·have q5 : decide ((k : Int) < (ms.length : Int)) = true := decide_eq_true (by omega)
     obtain ⟨⟨got, ecn, ago⟩, hm⟩ : ∃ m, ms[k]? = some m := ⟨ms[k]'hkt, List.getElem?_eq_getElem hkt⟩
     obtain ⟨ma, mo, mc', e_, _, _, _, hxm⟩ := HM.out.some_ (by omega)
     injection e_ with e_ _ e2_
     subst e_
     subst e2_
     obtain ⟨v0, v1, v2⟩ := metV_get hm
     replace v0 := hxm _ _ v0
     replace v1 := hxm _ _ v1
     replace v2 := hxm _ _ v2
     rw [← Nat.add_assoc] at v1 v2
     have k0 : (0 : Int) ≤ (k : Int) := by omega
     have k1 : (k : Int) < (ms.length : Int) := by omega
     have HMK := Aside0.mk hm
     clear hm hxm
     go_upto_region 8 with fail
     have X9 := Aside0.mk (blk_new wr (.cells #[.bool got, .int .i64 ecn, .int .i64 ago] 45))
     replace K0 := Aside0.mk (gb_blk (World.grownBy_alloc wr (.cells #[.bool got, .int .i64 ecn, .int .i64 ago] 45) none) K0.out (fun k hk => by cases hk))
     replace K4 := Aside0.mk (gb_blk (World.grownBy_alloc wr (.cells #[.bool got, .int .i64 ecn, .int .i64 ago] 45) none) K4.out (fun k hk => by cases hk))
     replace K8 := Aside0.mk (gb_blk (World.grownBy_alloc wr (.cells #[.bool got, .int .i64 ecn, .int .i64 ago] 45) none) K8.out (fun k hk => by cases hk))
     replace HR := Aside0.mk (HR.out.alloc (.cells #[.bool got, .int .i64 ecn, .int .i64 ago] 45))
     replace HL := Aside0.mk (HL.out.alloc (.cells #[.bool got, .int .i64 ecn, .int .i64 ago] 45))
     replace HM := Aside0.mk (HM.out.alloc (.cells #[.bool got, .int .i64 ecn, .int .i64 ago] 45))
     have hbr : b ≤ wr.heap.size := Nat.le_trans hbp (Nat.le_trans (Nat.le_of_lt hpl) HB.out.size)
     replace HFr := Aside0.mk (HFr.out.trans (Fr.alloc p wr (.cells #[.bool got, .int .i64 ecn, .int .i64 ago] 45)))
     replace HB := Aside0.mk (HB.out.alloc hbr (.cells #[.bool got, .int .i64 ecn, .int .i64 ago] 45))
     generalize wr.alloc (.cells #[.bool got, .int .i64 ecn, .int .i64 ago] 45) = w9 at *
     have c8 := blk_cell K8.out 1
     have x0 := blk_cell X9.out 0
     simp only [List.getElem?_toArray, List.getElem?_cons_zero, List.getElem?_cons_succ] at c8 x0
     have z8 : ∀ o, (w9.alloc o).cell? ⟨g8, 1, none⟩ = some (.int .i64 F) := fun o => (World.cell?_alloc_past _ _ _ (blk_lt K8.out)).trans c8
     have z0 : ∀ o, (w9.alloc o).cell? ⟨wr.heap.size, 0, none⟩ = some (.bool got) := fun o => (World.cell?_alloc_past _ _ _ (blk_lt X9.out)).trans x0
     have ew : wrap64 (F + (k : Int)) = F + (k : Int) := by unfold wrap64; omega
     have CC : Aside0 (∀ w : World, Calls Try.prog 43 #[.int .i64 (wrap64 (F + (k : Int))), .int .i64 16] w fun e w' => e = .returned (.int .i64 ((F + (k : Int)) % 65536)) ∧ w' = w) := ⟨fun w => by rw [ew]; exact cut16 (F + (k : Int)) w (by unfold I64; omega)⟩
     clear ew
     clear v0 v1 v2
     refine start_ (n := 10) (S := fun w' => w'.cell? ⟨g8, 1, none⟩ = some (.int .i64 F) ∧ w'.cell? ⟨wr.heap.size, 0, none⟩ = some (.bool got)) (ds := [9]) #[false, false, false, false, false, false, false, false, false, false] (by kernel_rfl) rfl rfl ⟨c8, x0⟩ (fun hHeld => ?_)
     refine pure_ (i := 0) (N := some 31) (v := ?_) (a' := ?_) #[true, false, false, false, false, false, false, false, false, false] rfl rfl (by kernel_rfl) (fun _ _ _ h => h) (Or.inl ⟨by rfl, ?_⟩) ?_ ?_
     rotate_left
     ·intro w'
      go_simp
      with_reducible rfl
     rotate_left
     ·simp only [Act.put, List.setIfInBounds_toArray, List.set_cons_zero, List.set_cons_succ, i64_w, i32_w]
      rfl
     refine pure_ (i := 2) (N := some 33) (v := ?_) (a' := ?_) #[true, false, true, false, false, false, false, false, false, false] rfl rfl (by kernel_rfl) (fun _ _ _ h => h) (Or.inl ⟨by rfl, ?_⟩) ?_ ?_
     rotate_left
     ·intro w'
      go_simp
      with_reducible rfl
     rotate_left
     ·simp only [Act.put, List.setIfInBounds_toArray, List.set_cons_zero, List.set_cons_succ, i64_w, i32_w]
      rfl
     refine pure_ (i := 5) (N := some 36) (v := ?_) (a' := ?_) #[true, false, true, false, false, true, false, false, false, false] rfl rfl (by kernel_rfl) (fun _ _ _ h => h) (Or.inl ⟨by rfl, ?_⟩) ?_ ?_
     rotate_left
     ·intro w'
      go_simp
      with_reducible rfl
     rotate_left
     ·simp only [Act.put, List.setIfInBounds_toArray, List.set_cons_zero, List.set_cons_succ, i64_w, i32_w]
      rfl
     refine take_ (i := 1) (N := some 32) (v := ?_) (a' := ?_) #[true, true, true, false, false, true, false, false, false, false] rfl rfl (by kernel_rfl) (fun _ _ _ h => h) (Or.inl ⟨by rfl, ?_⟩) hHeld ?_ ?_
     rotate_left
     ·rintro w' ⟨s0, s1⟩
      go_simp
      with_reducible rfl
     rotate_left
     ·simp only [Act.put, List.setIfInBounds_toArray, List.set_cons_zero, List.set_cons_succ, i64_w, i32_w]
      rfl
     refine pure_ (i := 3) (N := some 34) (v := ?_) (a' := ?_) #[true, true, true, true, false, true, false, false, false, false] rfl rfl (by kernel_rfl) (fun _ _ _ h => h) (Or.inl ⟨by rfl, ?_⟩) ?_ ?_
     rotate_left
     ·intro w'
      go_simp
      with_reducible rfl
     rotate_left
     ·simp only [Act.put, List.setIfInBounds_toArray, List.set_cons_zero, List.set_cons_succ, i64_w, i32_w]
      rfl
     refine take_ (i := 6) (N := some 37) (v := ?_) (a' := ?_) #[true, true, true, true, false, true, true, false, false, false] rfl rfl (by kernel_rfl) (fun _ _ _ h => h) (Or.inl ⟨by rfl, ?_⟩) hHeld ?_ ?_
     rotate_left
     ·rintro w' ⟨s0, s1⟩
      go_simp
      with_reducible rfl
     rotate_left
     ·simp only [Act.put, List.setIfInBounds_toArray, List.set_cons_zero, List.set_cons_succ, i64_w, i32_w]
      rfl
     refine join_ (σ := Unit) 1 #[true, true, true, true, true, true, true, true, true, false] (fun _ => [(35, (.int .i64 ((F + (k : Int)) % 65536))), (11, .pointer (some ⟨w9.heap.size, 0, none⟩)), (38, .agg #[.int .i64 ((F + (k : Int)) % 65536), .bool got, .int .i64 0, .bool false, .bool false])]) (fun _ w' => w' = w9.drew.alloc (.cells #[.int .i64 0, .bool false, .int .i64 0, .bool false, .bool false] 58)) ?_ ?_
     rotate_left
     ·intro hCont
      refine two_ (i := 4) (j := 8) (Ni := some 35) (Nj := some 11) #[true, true, true, true, true, true, true, false, false, false] #[true, true, true, true, false, true, true, false, true, false] rfl rfl rfl rfl (by kernel_rfl) (by decide) (by decide) (fun K hK => ?_) (fun K hK => ?_)
      ·skip
       refine goes_ Try.func43 (by kernel_rfl) rfl #[.int .i64 (wrap64 (F + (k : Int))), .int .i64 16] (by rfl) rfl rfl (by simp only [List.map_toArray, List.map_cons, List.map_nil]; rfl) ?_
       with_reducible refine (CC.out _).mono ?_
       rintro e w3 ⟨rfl, hw3⟩
       refine ⟨_, rfl, ?_⟩
       subst hw3
       refine hK.out _ _ ⟨c8, x0⟩ (fun hHeld => ?_)
       clear hK K
       refine norm_ (a' := ?_) ?_ ?_
       rotate_left
       ·show Act.put _ (some 35) _ = _
        simp only [Act.put, List.setIfInBounds_toArray, List.set_cons_zero, List.set_cons_succ, i64_w, i32_w]
        rfl
       refine pure_ (i := 7) (N := some 38) (v := ?_) (a' := ?_) #[true, true, true, true, true, true, true, true, false, false] rfl rfl (by kernel_rfl) (fun _ _ _ h => h) (Or.inl ⟨by rfl, ?_⟩) ?_ ?_
       rotate_left
       ·intro w'
        go_simp
        with_reducible rfl
       rotate_left
       ·simp only [Act.put, List.setIfInBounds_toArray, List.set_cons_zero, List.set_cons_succ, i64_w, i32_w]
        rfl
       refine one_ (i := 8) (N := some 11) #[true, true, true, true, true, true, true, true, true, false] rfl rfl (by kernel_rfl) (by decide) (fun K hK => ?_)
       refine value_ (w1 := ?_) (v := ?_) (by rfl) rfl ?_ ?_
       rotate_left 2
       ·go_simp
        constructor
        ·rfl
        ·rfl
       refine hK.out _ _ ⟨(z8 _), (z0 _)⟩ (fun hHeld => ?_)
       clear hK K
       refine norm_ (a' := ?_) ?_ ?_
       rotate_left
       ·show Act.put _ (some 11) _ = _
        simp only [Act.put, List.setIfInBounds_toArray, List.set_cons_zero, List.set_cons_succ, i64_w, i32_w]
        rfl
       exact norm_ (by simp only [putAll, Act.put, List.setIfInBounds_toArray, List.set_cons_zero, List.set_cons_succ]) (hCont () _ rfl)
      ·skip
       refine value_ (w1 := ?_) (v := ?_) (by rfl) rfl ?_ ?_
       rotate_left 2
       ·go_simp
        constructor
        ·rfl
        ·rfl
       refine hK.out _ _ ⟨(z8 _), (z0 _)⟩ (fun hHeld => ?_)
       clear hK K
       refine norm_ (a' := ?_) ?_ ?_
       rotate_left
       ·show Act.put _ (some 11) _ = _
        simp only [Act.put, List.setIfInBounds_toArray, List.set_cons_zero, List.set_cons_succ, i64_w, i32_w]
        rfl
       refine one_ (i := 4) (N := some 35) #[true, true, true, true, true, true, true, false, true, false] rfl rfl (by kernel_rfl) (by decide) (fun K hK => ?_)
       refine goes_ Try.func43 (by kernel_rfl) rfl #[.int .i64 (wrap64 (F + (k : Int))), .int .i64 16] (by rfl) rfl rfl (by simp only [List.map_toArray, List.map_cons, List.map_nil]; rfl) ?_
       with_reducible refine (CC.out _).mono ?_
       rintro e w3 ⟨rfl, hw3⟩
       refine ⟨_, rfl, ?_⟩
       subst hw3
       refine hK.out _ _ ⟨(z8 _), (z0 _)⟩ (fun hHeld => ?_)
       clear hK K
       refine norm_ (a' := ?_) ?_ ?_
       rotate_left
       ·show Act.put _ (some 35) _ = _
        simp only [Act.put, List.setIfInBounds_toArray, List.set_cons_zero, List.set_cons_succ, i64_w, i32_w]
        rfl
       refine pure_ (i := 7) (N := some 38) (v := ?_) (a' := ?_) #[true, true, true, true, true, true, true, true, true, false] rfl rfl (by kernel_rfl) (fun _ _ _ h => h) (Or.inl ⟨by rfl, ?_⟩) ?_ ?_
       rotate_left
       ·intro w'
        go_simp
        with_reducible rfl
       rotate_left
       ·simp only [Act.put, List.setIfInBounds_toArray, List.set_cons_zero, List.set_cons_succ, i64_w, i32_w]
        rfl
       exact norm_ (by simp only [putAll, Act.put, List.setIfInBounds_toArray, List.set_cons_zero, List.set_cons_succ]) (hCont () _ rfl)
     rintro _ wz hwz
     subst hwz
     have hHeld : _ ∧ _ := ⟨z8 (.cells #[.int .i64 0, .bool false, .int .i64 0, .bool false, .bool false] 58), z0 (.cells #[.int .i64 0, .bool false, .int .i64 0, .bool false, .bool false] 58)⟩
     refine norm_ (a' := ?_) ?_ ?_
     rotate_left
     ·simp only [putAll, Act.put, List.setIfInBounds_toArray, List.set_cons_zero, List.set_cons_succ]
      rfl
     refine last_ (i := 9) (N := none) #[true, true, true, true, true, true, true, true, true, true] rfl rfl (by kernel_rfl) (by decide) (fun K hK => ?_)
     refine skip_ (w1 := ?_) (by rfl) rfl ?_ ?_
     rotate_left
     ·go_simp
      rfl
     refine hK.out _ _ ?_
     clear hK K
     refine done_ (by kernel_rfl) ?_
     have BB : Aside0 (Below w9.heap.size w9 (w9.alloc (.cells #[.int .i64 ((F + (k : Int)) % 65536), .bool got, .int .i64 0, .bool false, .bool false] 58)).drew) := ⟨((Below.refl w9.heap.size w9).alloc (Nat.le_refl _) _).drew⟩
     have XX : Aside0 ((w9.alloc (.cells #[.int .i64 ((F + (k : Int)) % 65536), .bool got, .int .i64 0, .bool false, .bool false] 58)).drew.heap[w9.heap.size]? = some (.cells #[.int .i64 ((F + (k : Int)) % 65536), .bool got, .int .i64 0, .bool false, .bool false] 58 (0, 0))) := ⟨blk_new w9 (.cells #[.int .i64 ((F + (k : Int)) % 65536), .bool got, .int .i64 0, .bool false, .bool false] 58)⟩
     have hXl : (R' ++ repsM now F ms k).length ≤ 10000070000 := by
      rw [List.length_append, repsM_length, HRR.out, List.length_append]
      have h := repsB_le now ((L.map (·.1)).take j) (fun x hx => by
       obtain ⟨y, hy, rfl⟩ := List.mem_map.1 (List.mem_of_mem_take hx)
       exact (HX.out y hy).2.1)
      have h2 := List.length_take_le j (L.map (·.1))
      omega
     obtain ⟨X, hX⟩ : ∃ X, X = R' ++ repsM now F ms k := ⟨_, rfl⟩
     rw [← hX] at HR hXl
     have HXX := Aside0.mk hX
     clear hX
     have HS := Aside0.mk (show FS w p b g4 g8 S st ss F vA vr2 _ bc L _ _ ms X w9 from ⟨K0.out, K4.out, K8.out, HR.out, HL.out, HM.out, HB.out, HFr.out⟩)
     have n8 := h8
     have hA9 : w9.heap.size ≤ w9.heap.size := Nat.le_refl _
     obtain ⟨g9, hg9⟩ : ∃ g, g = wr.heap.size := ⟨_, rfl⟩
     rw [← hg9] at X9 ⊢
     clear K0 K4 K8 HR HL HM HB HFr c8 x0 z8 z0 CC hHeld
     try clear hHeld
     generalize (w9.alloc (.cells #[.int .i64 ((F + (k : Int)) % 65536), .bool got, .int .i64 0, .bool false, .bool false] 58)).drew = wA at *
     obtain ⟨gA, hgA⟩ : ∃ g, g = w9.heap.size := ⟨_, rfl⟩
     rw [← hgA] at XX ⊢
     replace hA9 : w9.heap.size ≤ gA := Nat.le_of_eq hgA.symm
     clear hgA hg9
     have hag9 := HAG.out _ (List.mem_of_getElem? HMK.out)
     dsimp only at hag9
     cases got with
     | false =>
      have X9A := Aside0.mk ((BB.out.block g9 (blk_lt X9.out)).trans X9.out)
      have y0 := blk_cell X9A.out 0
      simp only [List.getElem?_toArray, List.getElem?_cons_zero, List.getElem?_cons_succ] at y0
      go_wp2_with fail
      clear y0
      obtain ⟨wx, rfl⟩ : ∃ wx : World, wx = wA := ⟨_, rfl⟩
      have HSX := Aside0.mk (HS.out.step hbp BB.out)
      have hXE : X ++ [(((F + (k : Int)) % 65536), false, 0, false, false)] = R' ++ repsM now F ms (k + 1) := by rw [repsM_succ HMK.out, ← List.append_assoc, ← HXX.out, rep1_no rfl]
      have HXE := Aside0.mk hXE
      clear hXE
      have kc := blk_cell HSX.out.1 0
      simp only [List.getElem?_toArray, List.getElem?_cons_zero, List.getElem?_cons_succ] at kc
      have x0 := blk_cell XX.out 0
      simp only [List.getElem?_toArray, List.getElem?_cons_zero, List.getElem?_cons_succ] at x0
      have x1 := blk_cell XX.out 1
      simp only [List.getElem?_toArray, List.getElem?_cons_zero, List.getElem?_cons_succ] at x1
      have x2 := blk_cell XX.out 2
      simp only [List.getElem?_toArray, List.getElem?_cons_zero, List.getElem?_cons_succ] at x2
      have x3 := blk_cell XX.out 3
      simp only [List.getElem?_toArray, List.getElem?_cons_zero, List.getElem?_cons_succ] at x3
      have x4 := blk_cell XX.out 4
      simp only [List.getElem?_toArray, List.getElem?_cons_zero, List.getElem?_cons_succ] at x4
      have zp : ∀ o, (wx.alloc o).cell? ⟨p, 0, none⟩ = some vr2 := fun o => (World.cell?_alloc_past _ _ _ (blk_lt HSX.out.1)).trans kc
      have z0 : ∀ o, (wx.alloc o).cell? ⟨gA, 0, none⟩ = some (.int .i64 ((F + (k : Int)) % 65536)) := fun o => (World.cell?_alloc_past _ _ _ (blk_lt XX.out)).trans x0
      have z1 : ∀ o, (wx.alloc o).cell? ⟨gA, 1, none⟩ = some (.bool false) := fun o => (World.cell?_alloc_past _ _ _ (blk_lt XX.out)).trans x1
      have z2 : ∀ o, (wx.alloc o).cell? ⟨gA, 2, none⟩ = some (.int .i64 0) := fun o => (World.cell?_alloc_past _ _ _ (blk_lt XX.out)).trans x2
      have z3 : ∀ o, (wx.alloc o).cell? ⟨gA, 3, none⟩ = some (.bool false) := fun o => (World.cell?_alloc_past _ _ _ (blk_lt XX.out)).trans x3
      have z4 : ∀ o, (wx.alloc o).cell? ⟨gA, 4, none⟩ = some (.bool false) := fun o => (World.cell?_alloc_past _ _ _ (blk_lt XX.out)).trans x4
      refine start_ (n := 11) (S := fun w' => w'.cell? ⟨p, 0, none⟩ = some vr2 ∧ w'.cell? ⟨gA, 0, none⟩ = some (.int .i64 ((F + (k : Int)) % 65536)) ∧ w'.cell? ⟨gA, 1, none⟩ = some (.bool false) ∧ w'.cell? ⟨gA, 2, none⟩ = some (.int .i64 0) ∧ w'.cell? ⟨gA, 3, none⟩ = some (.bool false) ∧ w'.cell? ⟨gA, 4, none⟩ = some (.bool false)) (ds := [7, 10]) #[false, false, false, false, false, false, false, false, false, false, false] (by kernel_rfl) rfl rfl ⟨kc, x0, x1, x2, x3, x4⟩ (fun hHeld => ?_)
      refine pure_ (i := 0) (N := some 58) (v := ?_) (a' := ?_) #[true, false, false, false, false, false, false, false, false, false, false] rfl rfl (by kernel_rfl) (fun _ _ _ h => h) (Or.inl ⟨by rfl, ?_⟩) ?_ ?_
      rotate_left
      ·intro w'
       go_simp
       with_reducible rfl
      rotate_left
      ·simp only [Act.put, List.setIfInBounds_toArray, List.set_cons_zero, List.set_cons_succ, i64_w, i32_w]
       rfl
      refine pure_ (i := 1) (N := some 59) (v := ?_) (a' := ?_) #[true, true, false, false, false, false, false, false, false, false, false] rfl rfl (by kernel_rfl) (fun _ _ _ h => h) (Or.inl ⟨by rfl, ?_⟩) ?_ ?_
      rotate_left
      ·intro w'
       go_simp
       with_reducible rfl
      rotate_left
      ·simp only [Act.put, List.setIfInBounds_toArray, List.set_cons_zero, List.set_cons_succ, i64_w, i32_w]
       rfl
      refine pure_ (i := 2) (N := some 60) (v := ?_) (a' := ?_) #[true, true, true, false, false, false, false, false, false, false, false] rfl rfl (by kernel_rfl) (fun _ _ _ h => h) (Or.inl ⟨by rfl, ?_⟩) ?_ ?_
      rotate_left
      ·intro w'
       go_simp
       with_reducible rfl
      rotate_left
      ·simp only [Act.put, List.setIfInBounds_toArray, List.set_cons_zero, List.set_cons_succ, i64_w, i32_w]
       rfl
      refine pure_ (i := 3) (N := some 61) (v := ?_) (a' := ?_) #[true, true, true, true, false, false, false, false, false, false, false] rfl rfl (by kernel_rfl) (fun _ _ _ h => h) (Or.inl ⟨by rfl, ?_⟩) ?_ ?_
      rotate_left
      ·intro w'
       go_simp
       with_reducible rfl
      rotate_left
      ·simp only [Act.put, List.setIfInBounds_toArray, List.set_cons_zero, List.set_cons_succ, i64_w, i32_w]
       rfl
      refine take_ (i := 4) (N := some 62) (v := ?_) (a' := ?_) #[true, true, true, true, true, false, false, false, false, false, false] rfl rfl (by kernel_rfl) (fun _ _ _ h => h) (Or.inl ⟨by rfl, ?_⟩) hHeld ?_ ?_
      rotate_left
      ·rintro w' ⟨s0, s1, s2, s3, s4, s5⟩
       go_simp
       with_reducible rfl
      rotate_left
      ·simp only [Act.put, List.setIfInBounds_toArray, List.set_cons_zero, List.set_cons_succ, i64_w, i32_w]
       rfl
      refine take_ (i := 5) (N := some 63) (v := ?_) (a' := ?_) #[true, true, true, true, true, true, false, false, false, false, false] rfl rfl (by kernel_rfl) (fun _ _ _ h => h) (Or.inl ⟨by rfl, ?_⟩) hHeld ?_ ?_
      rotate_left
      ·rintro w' ⟨s0, s1, s2, s3, s4, s5⟩
       go_simp
       with_reducible rfl
      rotate_left
      ·simp only [Act.put, List.setIfInBounds_toArray, List.set_cons_zero, List.set_cons_succ, i64_w, i32_w]
       rfl
      refine one_ (i := 6) (N := some 64) #[true, true, true, true, true, true, true, false, false, false, false] rfl rfl (by kernel_rfl) (by decide) (fun K hK => ?_)
      refine value_ (w1 := ?_) (v := ?_) (by rfl) rfl ?_ ?_
      rotate_left 2
      ·go_simp
       constructor
       ·rfl
       ·rfl
      refine hK.out _ _ ⟨(zp _), (z0 _), (z1 _), (z2 _), (z3 _), (z4 _)⟩ (fun hHeld => ?_)
      clear hK K
      refine norm_ (a' := ?_) ?_ ?_
      rotate_left
      ·show Act.put _ (some 64) _ = _
       simp only [Act.put, List.setIfInBounds_toArray, List.set_cons_zero, List.set_cons_succ, i64_w, i32_w]
       rfl
      refine last_ (i := 7) (N := some 65) #[true, true, true, true, true, true, true, true, false, false, false] rfl rfl (by kernel_rfl) (by decide) (fun K hK => ?_)
      have HS1 := Aside0.mk (HSX.out.step hbp (((Below.refl wx.heap.size wx).drew).alloc (Nat.le_refl _) (.cells #[.int .i64 ((F + (k : Int)) % 65536), .bool false, .int .i64 0, .bool false, .bool false] 58)))
      have HBX : Aside0 (b ≤ (wx.drew.alloc (.cells #[.int .i64 ((F + (k : Int)) % 65536), .bool false, .int .i64 0, .bool false, .bool false] 58)).heap.size) := ⟨Nat.le_trans hbp (Nat.le_of_lt (blk_lt HS1.out.1))⟩
      refine row_append_step (w := (wx.drew.alloc (.cells #[.int .i64 ((F + (k : Int)) % 65536), .bool false, .int .i64 0, .bool false, .bool false] 58))) (.tmp 62) (.tmp 64) 23 rfl 58 Try.t58 (.agg #[.int .i64 0, .bool false, .int .i64 0, .bool false, .bool false]) 5 32 Try.underlying23 (by kernel_rfl) rfl rfl rfl (by decide) (by decide) b vr2 X.length (repV X) (by rfl) HS1.out.2.2.2.1 ⟨wx.heap.size, 0, none⟩ 1 1 [(.int .i64 ((F + (k : Int)) % 65536)), (.bool false), (.int .i64 0), (.bool false), (.bool false)] (by rfl) rfl (new_news wx.drew _ _) (by simp [Value.oneCell']) (by simp only [maxLen]; omega) (by omega) HBX.out ?_
      intro v1 w6 hR6 hG6 hO6 hF6
      obtain ⟨g6, o6, c6_, rfl, hb6, hn6, hc6, hx6⟩ := hR6.some_ (by omega)
      have Y0 := gb_blkR hG6 HS1.out.2.2.2.1 HS1.out.1 (by decide)
      have HFS := Aside0.mk (HS1.out.push (x := (((F + (k : Int)) % 65536), false, 0, false, false)) hbp n4 n8 hG6 hR6)
      have u0 := blk_cell Y0 0
      have u0f := blk_frozen Y0 0
      simp only [List.getElem?_toArray, List.getElem?_cons_zero, List.getElem?_cons_succ] at u0
      clear Y0 hx6 hR6 hG6 hO6 hF6
      refine hK.out _ _ ?_
      clear hK K
      refine norm_ (a' := ?_) ?_ ?_
      rotate_left
      ·show Act.put _ (some 65) _ = _
       simp only [Act.put, List.setIfInBounds_toArray, List.set_cons_zero, List.set_cons_succ, i64_w, i32_w]
       rfl
      refine pure_ (i := 8) (N := some 66) (v := ?_) (a' := ?_) #[true, true, true, true, true, true, true, true, true, false, false] rfl rfl (by kernel_rfl) (fun _ _ _ h => h) (Or.inl ⟨by rfl, ?_⟩) ?_ ?_
      rotate_left
      ·intro w'
       go_simp
       with_reducible rfl
      rotate_left
      ·simp only [Act.put, List.setIfInBounds_toArray, List.set_cons_zero, List.set_cons_succ, i64_w, i32_w]
       rfl
      refine pure_ (i := 9) (N := some 67) (v := ?_) (a' := ?_) #[true, true, true, true, true, true, true, true, true, true, false] rfl rfl (by kernel_rfl) (fun _ _ _ h => h) (Or.inl ⟨by rfl, ?_⟩) ?_ ?_
      rotate_left
      ·intro w'
       go_simp
       with_reducible rfl
      rotate_left
      ·simp only [Act.put, List.setIfInBounds_toArray, List.set_cons_zero, List.set_cons_succ, i64_w, i32_w]
       rfl
      refine last_ (i := 10) (N := none) #[true, true, true, true, true, true, true, true, true, true, true] rfl rfl (by kernel_rfl) (by decide) (fun K hK => ?_)
      refine skip_ (w1 := ?_) (by rfl) rfl ?_ ?_
      rotate_left
      ·go_simp
       rfl
      refine hK.out _ _ ?_
      clear hK K
      refine done_ (by kernel_rfl) ?_
      go_wp2_with fail
      have hFS := HFS.out
      rw [HXE.out] at hFS
      obtain ⟨j0, j1, j2, j3, j4, j5, j6, j7⟩ := hFS
      exact ⟨⟨k + 1, _, by simp, by omega, ⟨j0⟩, ⟨j1⟩, ⟨j2⟩, ⟨j3⟩, ⟨j4⟩, ⟨j5⟩, ⟨j6⟩, ⟨j7⟩⟩, by simp [intOf]; omega⟩
     | true =>
      have X9A := Aside0.mk ((BB.out.block g9 (blk_lt X9.out)).trans X9.out)
      have y0 := blk_cell X9A.out 0
      have y1 := blk_cell X9A.out 1
      have y2 := blk_cell X9A.out 2
      have a3 := blk_cell XX.out 3
      have a4 := blk_cell XX.out 4
      have f3 := blk_frozen XX.out 3
      have f4 := blk_frozen XX.out 4
      simp only [List.getElem?_toArray, List.getElem?_cons_zero, List.getElem?_cons_succ] at y0 y1 y2 a3 a4
      by_cases hla : 8190 ≤ ago
      ·have q8 : decide (8190 ≤ ago) = true := decide_eq_true hla
       have HLA := Aside0.mk hla
       clear hla
       go_wp2_with fail
       go_region
       clear y0 y1 y2 a3 a4 f3 f4
       have e_ := blk_set (w := (wA.setCell ⟨gA, 3, none⟩ (.bool true))) (blk_set (w := wA) XX.out 3 (.bool true)) 4 (.bool (ecn == 3))
       simp only [List.setIfInBounds_toArray, List.set_cons_zero, List.set_cons_succ] at e_
       have BB2 : Aside0 (Below w9.heap.size w9 (((wA.setCell ⟨gA, 3, none⟩ (.bool true)).setCell ⟨gA, 4, none⟩ (.bool (ecn == 3)))).drew) := ⟨(((BB.out.setCell (p := ⟨gA, 3, none⟩) hA9 (.bool true)).setCell (p := ⟨gA, 4, none⟩) hA9 (.bool (ecn == 3)))).drew⟩
       have XX2 : Aside0 ((((wA.setCell ⟨gA, 3, none⟩ (.bool true)).setCell ⟨gA, 4, none⟩ (.bool (ecn == 3)))).drew.heap[gA]? = some (.cells #[.int .i64 ((F + (k : Int)) % 65536), .bool true, .int .i64 0, .bool true, .bool (ecn == 3)] 58 (0, 0))) := ⟨e_⟩
       clear e_ BB XX
       generalize (((wA.setCell ⟨gA, 3, none⟩ (.bool true)).setCell ⟨gA, 4, none⟩ (.bool (ecn == 3)))).drew = wx at *
       have BB := BB2
       have XX := XX2
       clear BB2 XX2
       have a3 := blk_cell XX.out 3
       simp only [List.getElem?_toArray, List.getElem?_cons_zero, List.getElem?_cons_succ] at a3
       go_wp2_with fail
       clear a3
       have HSX := Aside0.mk (HS.out.step hbp BB.out)
       have hXE : X ++ [(((F + (k : Int)) % 65536), true, 0, true, (ecn == 3))] = R' ++ repsM now F ms (k + 1) := by rw [repsM_succ HMK.out, ← List.append_assoc, ← HXX.out, rep1_late rfl HLA.out]
       have HXE := Aside0.mk hXE
       clear hXE
       have kc := blk_cell HSX.out.1 0
       simp only [List.getElem?_toArray, List.getElem?_cons_zero, List.getElem?_cons_succ] at kc
       have x0 := blk_cell XX.out 0
       simp only [List.getElem?_toArray, List.getElem?_cons_zero, List.getElem?_cons_succ] at x0
       have x1 := blk_cell XX.out 1
       simp only [List.getElem?_toArray, List.getElem?_cons_zero, List.getElem?_cons_succ] at x1
       have x2 := blk_cell XX.out 2
       simp only [List.getElem?_toArray, List.getElem?_cons_zero, List.getElem?_cons_succ] at x2
       have x3 := blk_cell XX.out 3
       simp only [List.getElem?_toArray, List.getElem?_cons_zero, List.getElem?_cons_succ] at x3
       have x4 := blk_cell XX.out 4
       simp only [List.getElem?_toArray, List.getElem?_cons_zero, List.getElem?_cons_succ] at x4
       have zp : ∀ o, (wx.alloc o).cell? ⟨p, 0, none⟩ = some vr2 := fun o => (World.cell?_alloc_past _ _ _ (blk_lt HSX.out.1)).trans kc
       have z0 : ∀ o, (wx.alloc o).cell? ⟨gA, 0, none⟩ = some (.int .i64 ((F + (k : Int)) % 65536)) := fun o => (World.cell?_alloc_past _ _ _ (blk_lt XX.out)).trans x0
       have z1 : ∀ o, (wx.alloc o).cell? ⟨gA, 1, none⟩ = some (.bool true) := fun o => (World.cell?_alloc_past _ _ _ (blk_lt XX.out)).trans x1
       have z2 : ∀ o, (wx.alloc o).cell? ⟨gA, 2, none⟩ = some (.int .i64 0) := fun o => (World.cell?_alloc_past _ _ _ (blk_lt XX.out)).trans x2
       have z3 : ∀ o, (wx.alloc o).cell? ⟨gA, 3, none⟩ = some (.bool true) := fun o => (World.cell?_alloc_past _ _ _ (blk_lt XX.out)).trans x3
       have z4 : ∀ o, (wx.alloc o).cell? ⟨gA, 4, none⟩ = some (.bool (ecn == 3)) := fun o => (World.cell?_alloc_past _ _ _ (blk_lt XX.out)).trans x4
       refine start_ (n := 11) (S := fun w' => w'.cell? ⟨p, 0, none⟩ = some vr2 ∧ w'.cell? ⟨gA, 0, none⟩ = some (.int .i64 ((F + (k : Int)) % 65536)) ∧ w'.cell? ⟨gA, 1, none⟩ = some (.bool true) ∧ w'.cell? ⟨gA, 2, none⟩ = some (.int .i64 0) ∧ w'.cell? ⟨gA, 3, none⟩ = some (.bool true) ∧ w'.cell? ⟨gA, 4, none⟩ = some (.bool (ecn == 3))) (ds := [7, 10]) #[false, false, false, false, false, false, false, false, false, false, false] (by kernel_rfl) rfl rfl ⟨kc, x0, x1, x2, x3, x4⟩ (fun hHeld => ?_)
       refine pure_ (i := 0) (N := some 58) (v := ?_) (a' := ?_) #[true, false, false, false, false, false, false, false, false, false, false] rfl rfl (by kernel_rfl) (fun _ _ _ h => h) (Or.inl ⟨by rfl, ?_⟩) ?_ ?_
       rotate_left
       ·intro w'
        go_simp
        with_reducible rfl
       rotate_left
       ·simp only [Act.put, List.setIfInBounds_toArray, List.set_cons_zero, List.set_cons_succ, i64_w, i32_w]
        rfl
       refine pure_ (i := 1) (N := some 59) (v := ?_) (a' := ?_) #[true, true, false, false, false, false, false, false, false, false, false] rfl rfl (by kernel_rfl) (fun _ _ _ h => h) (Or.inl ⟨by rfl, ?_⟩) ?_ ?_
       rotate_left
       ·intro w'
        go_simp
        with_reducible rfl
       rotate_left
       ·simp only [Act.put, List.setIfInBounds_toArray, List.set_cons_zero, List.set_cons_succ, i64_w, i32_w]
        rfl
       refine pure_ (i := 2) (N := some 60) (v := ?_) (a' := ?_) #[true, true, true, false, false, false, false, false, false, false, false] rfl rfl (by kernel_rfl) (fun _ _ _ h => h) (Or.inl ⟨by rfl, ?_⟩) ?_ ?_
       rotate_left
       ·intro w'
        go_simp
        with_reducible rfl
       rotate_left
       ·simp only [Act.put, List.setIfInBounds_toArray, List.set_cons_zero, List.set_cons_succ, i64_w, i32_w]
        rfl
       refine pure_ (i := 3) (N := some 61) (v := ?_) (a' := ?_) #[true, true, true, true, false, false, false, false, false, false, false] rfl rfl (by kernel_rfl) (fun _ _ _ h => h) (Or.inl ⟨by rfl, ?_⟩) ?_ ?_
       rotate_left
       ·intro w'
        go_simp
        with_reducible rfl
       rotate_left
       ·simp only [Act.put, List.setIfInBounds_toArray, List.set_cons_zero, List.set_cons_succ, i64_w, i32_w]
        rfl
       refine take_ (i := 4) (N := some 62) (v := ?_) (a' := ?_) #[true, true, true, true, true, false, false, false, false, false, false] rfl rfl (by kernel_rfl) (fun _ _ _ h => h) (Or.inl ⟨by rfl, ?_⟩) hHeld ?_ ?_
       rotate_left
       ·rintro w' ⟨s0, s1, s2, s3, s4, s5⟩
        go_simp
        with_reducible rfl
       rotate_left
       ·simp only [Act.put, List.setIfInBounds_toArray, List.set_cons_zero, List.set_cons_succ, i64_w, i32_w]
        rfl
       refine take_ (i := 5) (N := some 63) (v := ?_) (a' := ?_) #[true, true, true, true, true, true, false, false, false, false, false] rfl rfl (by kernel_rfl) (fun _ _ _ h => h) (Or.inl ⟨by rfl, ?_⟩) hHeld ?_ ?_
       rotate_left
       ·rintro w' ⟨s0, s1, s2, s3, s4, s5⟩
        go_simp
        with_reducible rfl
       rotate_left
       ·simp only [Act.put, List.setIfInBounds_toArray, List.set_cons_zero, List.set_cons_succ, i64_w, i32_w]
        rfl
       refine one_ (i := 6) (N := some 64) #[true, true, true, true, true, true, true, false, false, false, false] rfl rfl (by kernel_rfl) (by decide) (fun K hK => ?_)
       refine value_ (w1 := ?_) (v := ?_) (by rfl) rfl ?_ ?_
       rotate_left 2
       ·go_simp
        constructor
        ·rfl
        ·rfl
       refine hK.out _ _ ⟨(zp _), (z0 _), (z1 _), (z2 _), (z3 _), (z4 _)⟩ (fun hHeld => ?_)
       clear hK K
       refine norm_ (a' := ?_) ?_ ?_
       rotate_left
       ·show Act.put _ (some 64) _ = _
        simp only [Act.put, List.setIfInBounds_toArray, List.set_cons_zero, List.set_cons_succ, i64_w, i32_w]
        rfl
       refine last_ (i := 7) (N := some 65) #[true, true, true, true, true, true, true, true, false, false, false] rfl rfl (by kernel_rfl) (by decide) (fun K hK => ?_)
       have HS1 := Aside0.mk (HSX.out.step hbp (((Below.refl wx.heap.size wx).drew).alloc (Nat.le_refl _) (.cells #[.int .i64 ((F + (k : Int)) % 65536), .bool true, .int .i64 0, .bool true, .bool (ecn == 3)] 58)))
       have HBX : Aside0 (b ≤ (wx.drew.alloc (.cells #[.int .i64 ((F + (k : Int)) % 65536), .bool true, .int .i64 0, .bool true, .bool (ecn == 3)] 58)).heap.size) := ⟨Nat.le_trans hbp (Nat.le_of_lt (blk_lt HS1.out.1))⟩
       refine row_append_step (w := (wx.drew.alloc (.cells #[.int .i64 ((F + (k : Int)) % 65536), .bool true, .int .i64 0, .bool true, .bool (ecn == 3)] 58))) (.tmp 62) (.tmp 64) 23 rfl 58 Try.t58 (.agg #[.int .i64 0, .bool false, .int .i64 0, .bool false, .bool false]) 5 32 Try.underlying23 (by kernel_rfl) rfl rfl rfl (by decide) (by decide) b vr2 X.length (repV X) (by rfl) HS1.out.2.2.2.1 ⟨wx.heap.size, 0, none⟩ 1 1 [(.int .i64 ((F + (k : Int)) % 65536)), (.bool true), (.int .i64 0), (.bool true), (.bool (ecn == 3))] (by rfl) rfl (new_news wx.drew _ _) (by simp [Value.oneCell']) (by simp only [maxLen]; omega) (by omega) HBX.out ?_
       intro v1 w6 hR6 hG6 hO6 hF6
       obtain ⟨g6, o6, c6_, rfl, hb6, hn6, hc6, hx6⟩ := hR6.some_ (by omega)
       have Y0 := gb_blkR hG6 HS1.out.2.2.2.1 HS1.out.1 (by decide)
       have HFS := Aside0.mk (HS1.out.push (x := (((F + (k : Int)) % 65536), true, 0, true, (ecn == 3))) hbp n4 n8 hG6 hR6)
       have u0 := blk_cell Y0 0
       have u0f := blk_frozen Y0 0
       simp only [List.getElem?_toArray, List.getElem?_cons_zero, List.getElem?_cons_succ] at u0
       clear Y0 hx6 hR6 hG6 hO6 hF6
       refine hK.out _ _ ?_
       clear hK K
       refine norm_ (a' := ?_) ?_ ?_
       rotate_left
       ·show Act.put _ (some 65) _ = _
        simp only [Act.put, List.setIfInBounds_toArray, List.set_cons_zero, List.set_cons_succ, i64_w, i32_w]
        rfl
       refine pure_ (i := 8) (N := some 66) (v := ?_) (a' := ?_) #[true, true, true, true, true, true, true, true, true, false, false] rfl rfl (by kernel_rfl) (fun _ _ _ h => h) (Or.inl ⟨by rfl, ?_⟩) ?_ ?_
       rotate_left
       ·intro w'
        go_simp
        with_reducible rfl
       rotate_left
       ·simp only [Act.put, List.setIfInBounds_toArray, List.set_cons_zero, List.set_cons_succ, i64_w, i32_w]
        rfl
       refine pure_ (i := 9) (N := some 67) (v := ?_) (a' := ?_) #[true, true, true, true, true, true, true, true, true, true, false] rfl rfl (by kernel_rfl) (fun _ _ _ h => h) (Or.inl ⟨by rfl, ?_⟩) ?_ ?_
       rotate_left
       ·intro w'
        go_simp
        with_reducible rfl
       rotate_left
       ·simp only [Act.put, List.setIfInBounds_toArray, List.set_cons_zero, List.set_cons_succ, i64_w, i32_w]
        rfl
       refine last_ (i := 10) (N := none) #[true, true, true, true, true, true, true, true, true, true, true] rfl rfl (by kernel_rfl) (by decide) (fun K hK => ?_)
       refine skip_ (w1 := ?_) (by rfl) rfl ?_ ?_
       rotate_left
       ·go_simp
        rfl
       refine hK.out _ _ ?_
       clear hK K
       refine done_ (by kernel_rfl) ?_
       go_wp2_with fail
       have hFS := HFS.out
       rw [HXE.out] at hFS
       obtain ⟨j0, j1, j2, j3, j4, j5, j6, j7⟩ := hFS
       exact ⟨⟨k + 1, _, by simp, by omega, ⟨j0⟩, ⟨j1⟩, ⟨j2⟩, ⟨j3⟩, ⟨j4⟩, ⟨j5⟩, ⟨j6⟩, ⟨j7⟩⟩, by simp [intOf]; omega⟩
      ·have q8 : decide (8190 ≤ ago) = false := decide_eq_false hla
       have HLA := Aside0.mk hla
       clear hla
       go_wp2_with fail
       go_region
       clear y0 y1 y2 a3 a4 f3 f4
       have e_ := blk_set (w := (wA.setCell ⟨gA, 3, none⟩ (.bool false))) (blk_set (w := wA) XX.out 3 (.bool false)) 4 (.bool (ecn == 3))
       simp only [List.setIfInBounds_toArray, List.set_cons_zero, List.set_cons_succ] at e_
       have BB2 : Aside0 (Below w9.heap.size w9 (((wA.setCell ⟨gA, 3, none⟩ (.bool false)).setCell ⟨gA, 4, none⟩ (.bool (ecn == 3)))).drew) := ⟨(((BB.out.setCell (p := ⟨gA, 3, none⟩) hA9 (.bool false)).setCell (p := ⟨gA, 4, none⟩) hA9 (.bool (ecn == 3)))).drew⟩
       have XX2 : Aside0 ((((wA.setCell ⟨gA, 3, none⟩ (.bool false)).setCell ⟨gA, 4, none⟩ (.bool (ecn == 3)))).drew.heap[gA]? = some (.cells #[.int .i64 ((F + (k : Int)) % 65536), .bool true, .int .i64 0, .bool false, .bool (ecn == 3)] 58 (0, 0))) := ⟨e_⟩
       clear e_ BB XX
       generalize (((wA.setCell ⟨gA, 3, none⟩ (.bool false)).setCell ⟨gA, 4, none⟩ (.bool (ecn == 3)))).drew = wB at *
       have BB := BB2
       have XX := XX2
       clear BB2 XX2
       have a3 := blk_cell XX.out 3
       have X9B := Aside0.mk ((BB.out.block g9 (blk_lt X9.out)).trans X9.out)
       have y2 := blk_cell X9B.out 2
       simp only [List.getElem?_toArray, List.getElem?_cons_zero, List.getElem?_cons_succ] at a3 y2
       have CD := Aside0.mk (fun w => do_any ago 1000000 1024 1 (by unfold I64; omega) (by unfold I64; omega) (by unfold I64; omega) w)
       obtain ⟨D, hD⟩ : ∃ D, D = mdo ago 1000000 1024 1 := ⟨_, rfl⟩
       rw [← hD] at CD
       have HD := Aside0.mk hD
       clear hD
       go_wp2_with fail
       refine (CD.out _).mono ?_
       rintro e w5 ⟨rfl, hb5⟩
       replace XX := Aside0.mk ((hb5.block gA (blk_lt XX.out)).trans XX.out)
       replace BB := Aside0.mk (BB.out.trans (hb5.mono BB.out.size))
       clear hb5 a3 y2 CD
       have a2 := blk_cell XX.out 2
       have f2 := blk_frozen XX.out 2
       simp only [List.getElem?_toArray, List.getElem?_cons_zero, List.getElem?_cons_succ] at a2
       go_wp2_with fail
       clear a2 f2
       obtain ⟨T, hT⟩ : ∃ T, T = wrap64 (now - D) := ⟨_, rfl⟩
       rw [← hT]
       have HT := Aside0.mk hT
       clear hT
       have e_ := blk_set (w := w5) XX.out 2 (.int .i64 T)
       simp only [List.setIfInBounds_toArray, List.set_cons_zero, List.set_cons_succ] at e_
       have BB2 : Aside0 (Below w9.heap.size w9 (w5.setCell ⟨gA, 2, none⟩ (.int .i64 T))) := ⟨(BB.out.setCell (p := ⟨gA, 2, none⟩) hA9 (.int .i64 T))⟩
       have XX2 : Aside0 ((w5.setCell ⟨gA, 2, none⟩ (.int .i64 T)).heap[gA]? = some (.cells #[.int .i64 ((F + (k : Int)) % 65536), .bool true, .int .i64 T, .bool false, .bool (ecn == 3)] 58 (0, 0))) := ⟨e_⟩
       clear e_ BB XX
       generalize (w5.setCell ⟨gA, 2, none⟩ (.int .i64 T)) = wx at *
       have BB := BB2
       have XX := XX2
       clear BB2 XX2
       have HSX := Aside0.mk (HS.out.step hbp BB.out)
       have hXE : X ++ [(((F + (k : Int)) % 65536), true, T, false, (ecn == 3))] = R' ++ repsM now F ms (k + 1) := by rw [repsM_succ HMK.out, ← List.append_assoc, ← HXX.out, rep1_at (m := (true, ecn, ago)) rfl (Int.not_le.2 HLA.out), ← HD.out, ← HT.out]
       have HXE := Aside0.mk hXE
       clear hXE
       have kc := blk_cell HSX.out.1 0
       simp only [List.getElem?_toArray, List.getElem?_cons_zero, List.getElem?_cons_succ] at kc
       have x0 := blk_cell XX.out 0
       simp only [List.getElem?_toArray, List.getElem?_cons_zero, List.getElem?_cons_succ] at x0
       have x1 := blk_cell XX.out 1
       simp only [List.getElem?_toArray, List.getElem?_cons_zero, List.getElem?_cons_succ] at x1
       have x2 := blk_cell XX.out 2
       simp only [List.getElem?_toArray, List.getElem?_cons_zero, List.getElem?_cons_succ] at x2
       have x3 := blk_cell XX.out 3
       simp only [List.getElem?_toArray, List.getElem?_cons_zero, List.getElem?_cons_succ] at x3
       have x4 := blk_cell XX.out 4
       simp only [List.getElem?_toArray, List.getElem?_cons_zero, List.getElem?_cons_succ] at x4
       have zp : ∀ o, (wx.alloc o).cell? ⟨p, 0, none⟩ = some vr2 := fun o => (World.cell?_alloc_past _ _ _ (blk_lt HSX.out.1)).trans kc
       have z0 : ∀ o, (wx.alloc o).cell? ⟨gA, 0, none⟩ = some (.int .i64 ((F + (k : Int)) % 65536)) := fun o => (World.cell?_alloc_past _ _ _ (blk_lt XX.out)).trans x0
       have z1 : ∀ o, (wx.alloc o).cell? ⟨gA, 1, none⟩ = some (.bool true) := fun o => (World.cell?_alloc_past _ _ _ (blk_lt XX.out)).trans x1
       have z2 : ∀ o, (wx.alloc o).cell? ⟨gA, 2, none⟩ = some (.int .i64 T) := fun o => (World.cell?_alloc_past _ _ _ (blk_lt XX.out)).trans x2
       have z3 : ∀ o, (wx.alloc o).cell? ⟨gA, 3, none⟩ = some (.bool false) := fun o => (World.cell?_alloc_past _ _ _ (blk_lt XX.out)).trans x3
       have z4 : ∀ o, (wx.alloc o).cell? ⟨gA, 4, none⟩ = some (.bool (ecn == 3)) := fun o => (World.cell?_alloc_past _ _ _ (blk_lt XX.out)).trans x4
       refine start_ (n := 11) (S := fun w' => w'.cell? ⟨p, 0, none⟩ = some vr2 ∧ w'.cell? ⟨gA, 0, none⟩ = some (.int .i64 ((F + (k : Int)) % 65536)) ∧ w'.cell? ⟨gA, 1, none⟩ = some (.bool true) ∧ w'.cell? ⟨gA, 2, none⟩ = some (.int .i64 T) ∧ w'.cell? ⟨gA, 3, none⟩ = some (.bool false) ∧ w'.cell? ⟨gA, 4, none⟩ = some (.bool (ecn == 3))) (ds := [7, 10]) #[false, false, false, false, false, false, false, false, false, false, false] (by kernel_rfl) rfl rfl ⟨kc, x0, x1, x2, x3, x4⟩ (fun hHeld => ?_)
       refine pure_ (i := 0) (N := some 58) (v := ?_) (a' := ?_) #[true, false, false, false, false, false, false, false, false, false, false] rfl rfl (by kernel_rfl) (fun _ _ _ h => h) (Or.inl ⟨by rfl, ?_⟩) ?_ ?_
       rotate_left
       ·intro w'
        go_simp
        with_reducible rfl
       rotate_left
       ·simp only [Act.put, List.setIfInBounds_toArray, List.set_cons_zero, List.set_cons_succ, i64_w, i32_w]
        rfl
       refine pure_ (i := 1) (N := some 59) (v := ?_) (a' := ?_) #[true, true, false, false, false, false, false, false, false, false, false] rfl rfl (by kernel_rfl) (fun _ _ _ h => h) (Or.inl ⟨by rfl, ?_⟩) ?_ ?_
       rotate_left
       ·intro w'
        go_simp
        with_reducible rfl
       rotate_left
       ·simp only [Act.put, List.setIfInBounds_toArray, List.set_cons_zero, List.set_cons_succ, i64_w, i32_w]
        rfl
       refine pure_ (i := 2) (N := some 60) (v := ?_) (a' := ?_) #[true, true, true, false, false, false, false, false, false, false, false] rfl rfl (by kernel_rfl) (fun _ _ _ h => h) (Or.inl ⟨by rfl, ?_⟩) ?_ ?_
       rotate_left
       ·intro w'
        go_simp
        with_reducible rfl
       rotate_left
       ·simp only [Act.put, List.setIfInBounds_toArray, List.set_cons_zero, List.set_cons_succ, i64_w, i32_w]
        rfl
       refine pure_ (i := 3) (N := some 61) (v := ?_) (a' := ?_) #[true, true, true, true, false, false, false, false, false, false, false] rfl rfl (by kernel_rfl) (fun _ _ _ h => h) (Or.inl ⟨by rfl, ?_⟩) ?_ ?_
       rotate_left
       ·intro w'
        go_simp
        with_reducible rfl
       rotate_left
       ·simp only [Act.put, List.setIfInBounds_toArray, List.set_cons_zero, List.set_cons_succ, i64_w, i32_w]
        rfl
       refine take_ (i := 4) (N := some 62) (v := ?_) (a' := ?_) #[true, true, true, true, true, false, false, false, false, false, false] rfl rfl (by kernel_rfl) (fun _ _ _ h => h) (Or.inl ⟨by rfl, ?_⟩) hHeld ?_ ?_
       rotate_left
       ·rintro w' ⟨s0, s1, s2, s3, s4, s5⟩
        go_simp
        with_reducible rfl
       rotate_left
       ·simp only [Act.put, List.setIfInBounds_toArray, List.set_cons_zero, List.set_cons_succ, i64_w, i32_w]
        rfl
       refine take_ (i := 5) (N := some 63) (v := ?_) (a' := ?_) #[true, true, true, true, true, true, false, false, false, false, false] rfl rfl (by kernel_rfl) (fun _ _ _ h => h) (Or.inl ⟨by rfl, ?_⟩) hHeld ?_ ?_
       rotate_left
       ·rintro w' ⟨s0, s1, s2, s3, s4, s5⟩
        go_simp
        with_reducible rfl
       rotate_left
       ·simp only [Act.put, List.setIfInBounds_toArray, List.set_cons_zero, List.set_cons_succ, i64_w, i32_w]
        rfl
       refine one_ (i := 6) (N := some 64) #[true, true, true, true, true, true, true, false, false, false, false] rfl rfl (by kernel_rfl) (by decide) (fun K hK => ?_)
       refine value_ (w1 := ?_) (v := ?_) (by rfl) rfl ?_ ?_
       rotate_left 2
       ·go_simp
        constructor
        ·rfl
        ·rfl
       refine hK.out _ _ ⟨(zp _), (z0 _), (z1 _), (z2 _), (z3 _), (z4 _)⟩ (fun hHeld => ?_)
       clear hK K
       refine norm_ (a' := ?_) ?_ ?_
       rotate_left
       ·show Act.put _ (some 64) _ = _
        simp only [Act.put, List.setIfInBounds_toArray, List.set_cons_zero, List.set_cons_succ, i64_w, i32_w]
        rfl
       refine last_ (i := 7) (N := some 65) #[true, true, true, true, true, true, true, true, false, false, false] rfl rfl (by kernel_rfl) (by decide) (fun K hK => ?_)
       have HS1 := Aside0.mk (HSX.out.step hbp (((Below.refl wx.heap.size wx).drew).alloc (Nat.le_refl _) (.cells #[.int .i64 ((F + (k : Int)) % 65536), .bool true, .int .i64 T, .bool false, .bool (ecn == 3)] 58)))
       have HBX : Aside0 (b ≤ (wx.drew.alloc (.cells #[.int .i64 ((F + (k : Int)) % 65536), .bool true, .int .i64 T, .bool false, .bool (ecn == 3)] 58)).heap.size) := ⟨Nat.le_trans hbp (Nat.le_of_lt (blk_lt HS1.out.1))⟩
       refine row_append_step (w := (wx.drew.alloc (.cells #[.int .i64 ((F + (k : Int)) % 65536), .bool true, .int .i64 T, .bool false, .bool (ecn == 3)] 58))) (.tmp 62) (.tmp 64) 23 rfl 58 Try.t58 (.agg #[.int .i64 0, .bool false, .int .i64 0, .bool false, .bool false]) 5 32 Try.underlying23 (by kernel_rfl) rfl rfl rfl (by decide) (by decide) b vr2 X.length (repV X) (by rfl) HS1.out.2.2.2.1 ⟨wx.heap.size, 0, none⟩ 1 1 [(.int .i64 ((F + (k : Int)) % 65536)), (.bool true), (.int .i64 T), (.bool false), (.bool (ecn == 3))] (by rfl) rfl (new_news wx.drew _ _) (by simp [Value.oneCell']) (by simp only [maxLen]; omega) (by omega) HBX.out ?_
       intro v1 w6 hR6 hG6 hO6 hF6
       obtain ⟨g6, o6, c6_, rfl, hb6, hn6, hc6, hx6⟩ := hR6.some_ (by omega)
       have Y0 := gb_blkR hG6 HS1.out.2.2.2.1 HS1.out.1 (by decide)
       have HFS := Aside0.mk (HS1.out.push (x := (((F + (k : Int)) % 65536), true, T, false, (ecn == 3))) hbp n4 n8 hG6 hR6)
       have u0 := blk_cell Y0 0
       have u0f := blk_frozen Y0 0
       simp only [List.getElem?_toArray, List.getElem?_cons_zero, List.getElem?_cons_succ] at u0
       clear Y0 hx6 hR6 hG6 hO6 hF6
       refine hK.out _ _ ?_
       clear hK K
       refine norm_ (a' := ?_) ?_ ?_
       rotate_left
       ·show Act.put _ (some 65) _ = _
        simp only [Act.put, List.setIfInBounds_toArray, List.set_cons_zero, List.set_cons_succ, i64_w, i32_w]
        rfl
       refine pure_ (i := 8) (N := some 66) (v := ?_) (a' := ?_) #[true, true, true, true, true, true, true, true, true, false, false] rfl rfl (by kernel_rfl) (fun _ _ _ h => h) (Or.inl ⟨by rfl, ?_⟩) ?_ ?_
       rotate_left
       ·intro w'
        go_simp
        with_reducible rfl
       rotate_left
       ·simp only [Act.put, List.setIfInBounds_toArray, List.set_cons_zero, List.set_cons_succ, i64_w, i32_w]
        rfl
       refine pure_ (i := 9) (N := some 67) (v := ?_) (a' := ?_) #[true, true, true, true, true, true, true, true, true, true, false] rfl rfl (by kernel_rfl) (fun _ _ _ h => h) (Or.inl ⟨by rfl, ?_⟩) ?_ ?_
       rotate_left
       ·intro w'
        go_simp
        with_reducible rfl
       rotate_left
       ·simp only [Act.put, List.setIfInBounds_toArray, List.set_cons_zero, List.set_cons_succ, i64_w, i32_w]
        rfl
       refine last_ (i := 10) (N := none) #[true, true, true, true, true, true, true, true, true, true, true] rfl rfl (by kernel_rfl) (by decide) (fun K hK => ?_)
       refine skip_ (w1 := ?_) (by rfl) rfl ?_ ?_
       rotate_left
       ·go_simp
        rfl
       refine hK.out _ _ ?_
       clear hK K
       refine done_ (by kernel_rfl) ?_
       go_wp2_with fail
       have hFS := HFS.out
       rw [HXE.out] at hFS
       obtain ⟨j0, j1, j2, j3, j4, j5, j6, j7⟩ := hFS
       exact ⟨⟨k + 1, _, by simp, by omega, ⟨j0⟩, ⟨j1⟩, ⟨j2⟩, ⟨j3⟩, ⟨j4⟩, ⟨j5⟩, ⟨j6⟩, ⟨j7⟩⟩, by simp [intOf]; omega⟩
    ·have q5 : decide ((k : Int) < (ms.length : Int)) = false := decide_eq_false (by omega)
     have hkl : k = ms.length := by omega
     rw [hkl] at HR
     clear hkl
     have HR2 := Aside0.mk (show RowV _ b 58 5 vr2 (R ++ repsB now ((L.map (·.1)).take (j + 1))).length (repV (R ++ repsB now ((L.map (·.1)).take (j + 1)))) by
      rw [repsB_take (j := j) (x := (ss, F, ms)) (by rw [List.getElem?_map, HXJ.out]; rfl), ← List.append_assoc, ← HRR.out]
      exact HR.out)
     go_wp2_with fail
     exact ⟨⟨j + 1, vr2, by simp, by omega, K0, K4, HR2, HL, HB, HFr⟩, by simp [intOf]; omega⟩
  ·have q4 : decide ((j : Int) < (L.length : Int)) = false := decide_eq_false (by omega)
   have hjl : (L.map (·.1)).take j = L.map (·.1) := List.take_of_length_le (by rw [List.length_map]; omega)
   rw [hjl] at HR
   clear hjl
   go_wp2_with fail
   (try simp only [Exit.inBlock, Exit.then])
   refine bodyPost_ret (results_none rfl _ _ _) rfl ?_
   exact ⟨rfl, vr, K0.out, HR.out, HB.out, HFr.out⟩
end Go.Proofs.Ytgakmnholegbgaa.B
end
section
namespace Go.Proofs.Ytgakmnholegbgaa.PFeedReads
open Go.RowKit Go.Proofs.YtgakmnholegbgaaW.PrintWords Go.Proofs.YtgakmnholegbgaaW.PrintLast Go.Proofs.YtgakmnholegbgaaW.PrintMore
attribute [local go_sem] max2_int min2_int max_two min_two max_three min_three max_four min_four
set_option linter.unusedVariables false
set_option linter.unusedSimpArgs false
theorem info5 : (Try.prog.info? 5).map (fun i => (i.zero, i.size, i.bytes)) = some (some (.int .u8 0), 1, 1) := by kernel_rfl
end Go.Proofs.Ytgakmnholegbgaa.PFeedReads
end
section
namespace Go.Proofs.Ytgakmnholegbgaa.PFeedReads
open Go.RowKit Go.Proofs.YtgakmnholegbgaaW.PrintWords Go.Proofs.YtgakmnholegbgaaW.PrintLast Go.Proofs.YtgakmnholegbgaaW.PrintMore
attribute [local go_sem] max2_int min2_int max_two min_two max_three min_three max_four min_four
set_option linter.unusedVariables false
set_option linter.unusedSimpArgs false
def wrap_good.f (a0 : Int) : Option (Bool) := if a0 ≥ 1 then (some (decide (a0 ≤ 32))) else (some false)
set_option maxHeartbeats 8000000 in
set_option maxRecDepth 100000 in
theorem wrap_good.calls (a0 : Int) (r : Bool) (w : World) (h : wrap_good.f a0 = some r) :
  Calls Try.prog 66 #[.int .i64 a0] w fun e w' => e = .returned (.bool r) ∧ Drawn0 w w' := by
 have H : (if a0 ≥ 1 then (some (decide (a0 ≤ 32))) else (some false)) = some r := h
 clear h
 by_cases c2 : a0 ≥ 1
 ·rw [if_pos c2] at H
  have c2b0 : decide (1 ≤ a0) = true := decide_eq_true c2
  clear c2
  obtain rfl := Option.some.inj H
  go_enter Try.func66, Try.ntmps66
  go_wp2
  go_ret
  exact ⟨by first | rfl | (simp; done) | (simp [*]; done), by repeat (first | exact Drawn0.refl _ | apply Drawn0.step)⟩
 ·rw [if_neg c2] at H
  have c2b0 : decide (1 ≤ a0) = false := decide_eq_false c2
  clear c2
  obtain rfl := Option.some.inj H
  go_enter Try.func66, Try.ntmps66
  go_wp2
  go_ret
  exact ⟨by first | rfl | (simp; done) | (simp [*]; done), by repeat (first | exact Drawn0.refl _ | apply Drawn0.step)⟩
def wrap_lower_int64.f (a0 : Int) (a1 : Int) : Option (Int) := if 0 ≤ a1 then (some (Go.bits .and .i64 a0 (wrap64 ((shl .i64 1 a1) - 1)))) else (none)
set_option maxHeartbeats 8000000 in
set_option maxRecDepth 100000 in
theorem wrap_lower_int64.calls (a0 : Int) (a1 : Int) (r : Int) (w : World) (h : wrap_lower_int64.f a0 a1 = some r) :
  Calls Try.prog 67 #[.int .i64 a0, .int .i64 a1] w fun e w' => e = .returned (.int .i64 r) ∧ Drawn0 w w' := by
 have H : (if 0 ≤ a1 then (some (Go.bits .and .i64 a0 (wrap64 ((shl .i64 1 a1) - 1)))) else (none)) = some r := h
 clear h
 by_cases c3 : 0 ≤ a1
 ·rw [if_pos c3] at H
  have c3b0 := eq_true c3
  have c3b1 : decide (0 ≤ a1) = true := decide_eq_true c3
  clear c3
  obtain ⟨ji4, hji4⟩ : ∃ j_ : Int, (shl .i64 1 a1) = j_ := ⟨_, rfl⟩
  replace H : (some (Go.bits .and .i64 a0 (wrap64 ((ji4) - 1)))) = some r := by first | (rw [hji4] at H; exact H) | (simp only [hji4] at H ⊢; exact H)
  have hji4_ : (IntKind.i64.wrap (1 * 2 ^ min a1.toNat 64)) = ji4 := hji4
  have hji4z : a1 ≤ 64 → (IntKind.i64.wrap (1 * 2 ^ a1.toNat)) = ji4 := shl_small hji4
  have hji4u : (IntKind.i64.wrap (2 ^ min a1.toNat 64)) = ji4 := by have h_ := hji4_; rw [Int.one_mul] at h_; exact h_
  have hji4v : a1 ≤ 64 → (IntKind.i64.wrap (2 ^ a1.toNat)) = ji4 := fun hle_ => by have h_ := hji4z hle_; rw [Int.one_mul] at h_; exact h_
  have hji4y : (wrap64 (1 * 2 ^ min a1.toNat 64)) = ji4 := (i64_w _).symm.trans hji4_
  have hji4x : a1 ≤ 64 → (wrap64 (1 * 2 ^ a1.toNat)) = ji4 := fun h_ => (i64_w _).symm.trans (hji4z h_)
  obtain rfl := Option.some.inj H
  go_enter Try.func67, Try.ntmps67
  go_wp2
  go_ret
  exact ⟨by first | rfl | (simp; done) | (simp only [← hji4] <;> (first | rfl | simp)) | (simp [*]; done), by repeat (first | exact Drawn0.refl _ | apply Drawn0.step)⟩
 ·rw [if_neg c3] at H
  exact absurd H (by simp)
def wrap_Cut_p.f (a0 : Int) (a1 : Int) : Option (Int) := (wrap_good.f a1).bind fun t254 => (if t254 = true then ((wrap_lower_int64.f a0 a1).bind fun t255 => (some t255)) else (some 0))
set_option maxHeartbeats 8000000 in
set_option maxRecDepth 100000 in
theorem wrap_Cut_p.calls (a0 : Int) (a1 : Int) (r : Int) (w : World) (h : wrap_Cut_p.f a0 a1 = some r) :
  Calls Try.prog 43 #[.int .i64 a0, .int .i64 a1] w fun e w' => e = .returned (.int .i64 r) ∧ Drawn0 w w' := by
 have H : ((wrap_good.f a1).bind fun t254 => (if t254 = true then ((wrap_lower_int64.f a0 a1).bind fun t255 => (some t255)) else (some 0))) = some r := h
 clear h
 replace H := Option.bind_eq_some_iff.mp H
 obtain ⟨t254, A30, H⟩ := H
 replace H : (if t254 = true then ((wrap_lower_int64.f a0 a1).bind fun t255 => (some t255)) else (some 0)) = some r := H
 have A3 := Aside0.mk A30
 clear A30
 by_cases c4 : t254 = true
 ·subst c4
  have H1 : ((wrap_lower_int64.f a0 a1).bind fun t255 => (some t255)) = some r := by rw [if_pos rfl] at H; exact H
  clear H
  have H := H1
  clear H1
  replace H := Option.bind_eq_some_iff.mp H
  obtain ⟨t255, A50, H⟩ := H
  replace H : (some t255) = some r := H
  have A5 := Aside0.mk A50
  clear A50
  obtain rfl := Option.some.inj H
  go_enter Try.func43, Try.ntmps43
  go_wp2_with (first | ((with_reducible refine gate_callee (f := 66) rfl ?_); refine goesL_ (some 6) rfl rfl Try.func66 (by kernel_rfl) rfl #[.int .i64 a1] rfl (by (try simp only [List.map_toArray, List.map_cons, List.map_nil]); first | done | rfl | (simp only [List.length_drop, List.length_take]; rfl)) ?_; (with_reducible refine (wrap_good.calls a1 true _ A3.out).mono ?_); rintro e w' ⟨rfl, ⟨nd, rfl⟩⟩; refine ⟨_, rfl, ?_⟩) | ((with_reducible refine gate_callee (f := 67) rfl ?_); refine goesL_ (some 10) rfl rfl Try.func67 (by kernel_rfl) rfl #[.int .i64 a0, .int .i64 a1] rfl (by (try simp only [List.map_toArray, List.map_cons, List.map_nil]); first | done | rfl | (simp only [List.length_drop, List.length_take]; rfl)) ?_; (with_reducible refine (wrap_lower_int64.calls a0 a1 t255 _ A5.out).mono ?_); rintro e w' ⟨rfl, ⟨nd, rfl⟩⟩; refine ⟨_, rfl, ?_⟩))
  go_ret
  exact ⟨by first | rfl | (simp; done) | (simp [*]; done), by repeat (first | exact Drawn0.refl _ | apply Drawn0.step)⟩
 ·replace c4 := Bool.eq_false_iff.mpr c4
  subst c4
  have H1 : (some 0) = some r := by rw [if_neg (show ¬ (false = true) by decide)] at H; exact H
  clear H
  have H := H1
  clear H1
  obtain rfl := Option.some.inj H
  go_enter Try.func43, Try.ntmps43
  go_wp2_with (first | ((with_reducible refine gate_callee (f := 66) rfl ?_); refine goesL_ (some 6) rfl rfl Try.func66 (by kernel_rfl) rfl #[.int .i64 a1] rfl (by (try simp only [List.map_toArray, List.map_cons, List.map_nil]); first | done | rfl | (simp only [List.length_drop, List.length_take]; rfl)) ?_; (with_reducible refine (wrap_good.calls a1 false _ A3.out).mono ?_); rintro e w' ⟨rfl, ⟨nd, rfl⟩⟩; refine ⟨_, rfl, ?_⟩))
  go_ret
  exact ⟨by first | rfl | (simp; done) | (simp [*]; done), by repeat (first | exact Drawn0.refl _ | apply Drawn0.step)⟩
def wrap_Cut.f (a0 : Int) (a1 : Int) : Option (Int) := some (if 1 ≤ a1 ∧ a1 ≤ 32 then a0 % 2 ^ a1.toNat else 0)
theorem wrap_Cut.told (a0 a1 : Int) : wrap_Cut_p.f a0 a1 = some (if 1 ≤ a1 ∧ a1 ≤ 32 then a0 % 2 ^ a1.toNat else 0) := by
 unfold wrap_Cut_p.f wrap_good.f wrap_lower_int64.f
 by_cases h1 : a1 ≥ 1
 ·by_cases h2 : a1 ≤ 32
  ·have hc : 1 ≤ a1 ∧ a1 ≤ 32 := ⟨h1, h2⟩
   have h0 : (0 : Int) ≤ a1 := by omega
   rw [if_pos hc, if_pos h1]
   simp only [Option.bind_some, h2, decide_true, if_true, h0]
   congr 1
   obtain ⟨k, rfl⟩ : ∃ k : Nat, a1 = k := ⟨a1.toNat, by omega⟩
   have hp : (2 : Nat) ^ k ≤ 2 ^ 32 := Nat.pow_le_pow_right (by omega) (by omega)
   have hp1 := Nat.two_pow_pos k
   have e2 : ((2 : Int) ^ k) = ((2 ^ k : Nat) : Int) := by rw [Int.natCast_pow]; rfl
   have e : shl .i64 1 (k : Int) = 2 ^ k := by
    unfold shl
    rw [Int.toNat_natCast, Nat.min_eq_left (show k ≤ IntKind.i64.bits from by show k ≤ 64; omega), Int.one_mul, IntKind.wrap_i64]
    rw [e2]; omega
   rw [e, show wrap64 ((2 : Int) ^ k - 1) = 2 ^ k - 1 from by unfold wrap64; rw [e2]; omega, Int.toNat_natCast, B.and_mask_i64 a0 k (by omega)]
  ·have hc : ¬ (1 ≤ a1 ∧ a1 ≤ 32) := fun h => h2 h.2
   rw [if_neg hc, if_pos h1]
   simp [h2]
 ·have hc : ¬ (1 ≤ a1 ∧ a1 ≤ 32) := fun h => h1 h.1
  rw [if_neg hc, if_neg h1]
  simp
theorem wrap_Cut.calls (a0 : Int) (a1 : Int) (r : Int) (w : World) (h : wrap_Cut.f a0 a1 = some r) :
  Calls Try.prog 43 #[.int .i64 a0, .int .i64 a1] w fun e w' => e = .returned (.int .i64 r) ∧ Drawn0 w w' :=
 wrap_Cut_p.calls a0 a1 r w ((wrap_Cut.told a0 a1).trans h)
theorem wrap_Cut.at16 (z : Int) : wrap_Cut.f z 16 = some (z % 65536) := by
 unfold wrap_Cut.f
 have p16 : (2 : Int) ^ (16 : Int).toNat = 65536 := by
  rw [show (16 : Int).toNat = 16 from rfl]
  simp
 have hc : (1 : Int) ≤ 16 ∧ (16 : Int) ≤ 32 := by omega
 rw [if_pos hc, p16]
def wrap_lower_int.f (a0 : Int) (a1 : Int) : Option (Int) := if 0 ≤ a1 then (some (Go.bits .and .i64 a0 (wrap64 ((shl .i64 1 a1) - 1)))) else (none)
set_option maxHeartbeats 8000000 in
set_option maxRecDepth 100000 in
theorem wrap_lower_int.calls (a0 : Int) (a1 : Int) (r : Int) (w : World) (h : wrap_lower_int.f a0 a1 = some r) :
  Calls Try.prog 69 #[.int .i64 a0, .int .i64 a1] w fun e w' => e = .returned (.int .i64 r) ∧ Drawn0 w w' := by
 have H : (if 0 ≤ a1 then (some (Go.bits .and .i64 a0 (wrap64 ((shl .i64 1 a1) - 1)))) else (none)) = some r := h
 clear h
 by_cases c3 : 0 ≤ a1
 ·rw [if_pos c3] at H
  have c3b0 := eq_true c3
  have c3b1 : decide (0 ≤ a1) = true := decide_eq_true c3
  clear c3
  obtain ⟨ji4, hji4⟩ : ∃ j_ : Int, (shl .i64 1 a1) = j_ := ⟨_, rfl⟩
  replace H : (some (Go.bits .and .i64 a0 (wrap64 ((ji4) - 1)))) = some r := by first | (rw [hji4] at H; exact H) | (simp only [hji4] at H ⊢; exact H)
  have hji4_ : (IntKind.i64.wrap (1 * 2 ^ min a1.toNat 64)) = ji4 := hji4
  have hji4z : a1 ≤ 64 → (IntKind.i64.wrap (1 * 2 ^ a1.toNat)) = ji4 := shl_small hji4
  have hji4u : (IntKind.i64.wrap (2 ^ min a1.toNat 64)) = ji4 := by have h_ := hji4_; rw [Int.one_mul] at h_; exact h_
  have hji4v : a1 ≤ 64 → (IntKind.i64.wrap (2 ^ a1.toNat)) = ji4 := fun hle_ => by have h_ := hji4z hle_; rw [Int.one_mul] at h_; exact h_
  have hji4y : (wrap64 (1 * 2 ^ min a1.toNat 64)) = ji4 := (i64_w _).symm.trans hji4_
  have hji4x : a1 ≤ 64 → (wrap64 (1 * 2 ^ a1.toNat)) = ji4 := fun h_ => (i64_w _).symm.trans (hji4z h_)
  obtain rfl := Option.some.inj H
  go_enter Try.func69, Try.ntmps69
  go_wp2
  go_ret
  exact ⟨by first | rfl | (simp; done) | (simp only [← hji4] <;> (first | rfl | simp)) | (simp [*]; done), by repeat (first | exact Drawn0.refl _ | apply Drawn0.step)⟩
 ·rw [if_neg c3] at H
  exact absurd H (by simp)
def wrap_After_p.f (a0 : Int) (a1 : Int) (a2 : Int) : Option (Bool) := (wrap_good.f a2).bind fun t256 => (if t256 = true then (if a0 < 0 then (some false) else (if a1 < 0 then (some false) else (if 0 ≤ a2 then (if a0 ≥ (shl .i64 1 a2) then (some false) else (if a1 ≥ (shl .i64 1 a2) then (some false) else ((wrap_lower_int.f (wrap64 (a0 - a1)) a2).bind fun t257 => (if t257 ≥ 1 then (if 0 ≤ (wrap64 (a2 - 1)) then (some (decide (t257 < (shl .i64 1 (wrap64 (a2 - 1)))))) else (none)) else (some false))))) else (none)))) else (some false))
set_option maxHeartbeats 8000000 in
set_option maxRecDepth 100000 in
theorem wrap_After_p.calls (a0 : Int) (a1 : Int) (a2 : Int) (r : Bool) (w : World) (h : wrap_After_p.f a0 a1 a2 = some r) :
  Calls Try.prog 73 #[.int .i64 a0, .int .i64 a1, .int .i64 a2] w fun e w' => e = .returned (.bool r) ∧ Drawn0 w w' := by
 have H : ((wrap_good.f a2).bind fun t256 => (if t256 = true then (if a0 < 0 then (some false) else (if a1 < 0 then (some false) else (if 0 ≤ a2 then (if a0 ≥ (shl .i64 1 a2) then (some false) else (if a1 ≥ (shl .i64 1 a2) then (some false) else ((wrap_lower_int.f (wrap64 (a0 - a1)) a2).bind fun t257 => (if t257 ≥ 1 then (if 0 ≤ (wrap64 (a2 - 1)) then (some (decide (t257 < (shl .i64 1 (wrap64 (a2 - 1)))))) else (none)) else (some false))))) else (none)))) else (some false))) = some r := h
 clear h
 replace H := Option.bind_eq_some_iff.mp H
 obtain ⟨t256, A40, H⟩ := H
 replace H : (if t256 = true then (if a0 < 0 then (some false) else (if a1 < 0 then (some false) else (if 0 ≤ a2 then (if a0 ≥ (shl .i64 1 a2) then (some false) else (if a1 ≥ (shl .i64 1 a2) then (some false) else ((wrap_lower_int.f (wrap64 (a0 - a1)) a2).bind fun t257 => (if t257 ≥ 1 then (if 0 ≤ (wrap64 (a2 - 1)) then (some (decide (t257 < (shl .i64 1 (wrap64 (a2 - 1)))))) else (none)) else (some false))))) else (none)))) else (some false)) = some r := H
 have A4 := Aside0.mk A40
 clear A40
 by_cases c5 : t256 = true
 ·subst c5
  have H1 : (if a0 < 0 then (some false) else (if a1 < 0 then (some false) else (if 0 ≤ a2 then (if a0 ≥ (shl .i64 1 a2) then (some false) else (if a1 ≥ (shl .i64 1 a2) then (some false) else ((wrap_lower_int.f (wrap64 (a0 - a1)) a2).bind fun t257 => (if t257 ≥ 1 then (if 0 ≤ (wrap64 (a2 - 1)) then (some (decide (t257 < (shl .i64 1 (wrap64 (a2 - 1)))))) else (none)) else (some false))))) else (none)))) = some r := by rw [if_pos rfl] at H; exact H
  clear H
  have H := H1
  clear H1
  by_cases c6 : a0 < 0
  ·rw [if_pos c6] at H
   have c6b0 : decide (a0 < 0) = true := decide_eq_true c6
   clear c6
   obtain rfl := Option.some.inj H
   go_enter Try.func73, Try.ntmps73
   go_wp2_with (first | ((with_reducible refine gate_callee (f := 66) rfl ?_); refine goesL_ (some 9) rfl rfl Try.func66 (by kernel_rfl) rfl #[.int .i64 a2] rfl (by (try simp only [List.map_toArray, List.map_cons, List.map_nil]); first | done | rfl | (simp only [List.length_drop, List.length_take]; rfl)) ?_; (with_reducible refine (wrap_good.calls a2 true _ A4.out).mono ?_); rintro e w' ⟨rfl, ⟨nd, rfl⟩⟩; refine ⟨_, rfl, ?_⟩))
   go_ret
   exact ⟨by first | rfl | (simp; done) | (simp [*]; done), by repeat (first | exact Drawn0.refl _ | apply Drawn0.step)⟩
  ·rw [if_neg c6] at H
   have c6b0 : decide (a0 < 0) = false := decide_eq_false c6
   clear c6
   by_cases c7 : a1 < 0
   ·rw [if_pos c7] at H
    have c7b0 : decide (a1 < 0) = true := decide_eq_true c7
    clear c7
    obtain rfl := Option.some.inj H
    go_enter Try.func73, Try.ntmps73
    go_wp2_with (first | ((with_reducible refine gate_callee (f := 66) rfl ?_); refine goesL_ (some 9) rfl rfl Try.func66 (by kernel_rfl) rfl #[.int .i64 a2] rfl (by (try simp only [List.map_toArray, List.map_cons, List.map_nil]); first | done | rfl | (simp only [List.length_drop, List.length_take]; rfl)) ?_; (with_reducible refine (wrap_good.calls a2 true _ A4.out).mono ?_); rintro e w' ⟨rfl, ⟨nd, rfl⟩⟩; refine ⟨_, rfl, ?_⟩))
    go_ret
    exact ⟨by first | rfl | (simp; done) | (simp [*]; done), by repeat (first | exact Drawn0.refl _ | apply Drawn0.step)⟩
   ·rw [if_neg c7] at H
    have c7b0 : decide (a1 < 0) = false := decide_eq_false c7
    clear c7
    by_cases c8 : 0 ≤ a2
    ·rw [if_pos c8] at H
     have c8b0 := eq_true c8
     have c8b1 : decide (0 ≤ a2) = true := decide_eq_true c8
     clear c8
     obtain ⟨ji9, hji9⟩ : ∃ j_ : Int, (shl .i64 1 a2) = j_ := ⟨_, rfl⟩
     replace H : (if a0 ≥ (ji9) then (some false) else (if a1 ≥ (ji9) then (some false) else ((wrap_lower_int.f (wrap64 (a0 - a1)) a2).bind fun t257 => (if t257 ≥ 1 then (if 0 ≤ (wrap64 (a2 - 1)) then (some (decide (t257 < (shl .i64 1 (wrap64 (a2 - 1)))))) else (none)) else (some false))))) = some r := by first | (rw [hji9] at H; exact H) | (simp only [hji9] at H ⊢; exact H)
     (try rw [hji9] at A4)
     have hji9_ : (IntKind.i64.wrap (1 * 2 ^ min a2.toNat 64)) = ji9 := hji9
     have hji9z : a2 ≤ 64 → (IntKind.i64.wrap (1 * 2 ^ a2.toNat)) = ji9 := shl_small hji9
     have hji9u : (IntKind.i64.wrap (2 ^ min a2.toNat 64)) = ji9 := by have h_ := hji9_; rw [Int.one_mul] at h_; exact h_
     have hji9v : a2 ≤ 64 → (IntKind.i64.wrap (2 ^ a2.toNat)) = ji9 := fun hle_ => by have h_ := hji9z hle_; rw [Int.one_mul] at h_; exact h_
     have hji9y : (wrap64 (1 * 2 ^ min a2.toNat 64)) = ji9 := (i64_w _).symm.trans hji9_
     have hji9x : a2 ≤ 64 → (wrap64 (1 * 2 ^ a2.toNat)) = ji9 := fun h_ => (i64_w _).symm.trans (hji9z h_)
     by_cases c10 : a0 ≥ (ji9)
     ·rw [if_pos c10] at H
      have c10b0 : decide ((ji9) ≤ a0) = true := decide_eq_true c10
      clear c10
      obtain rfl := Option.some.inj H
      go_enter Try.func73, Try.ntmps73
      go_wp2_with (first | ((with_reducible refine gate_callee (f := 66) rfl ?_); refine goesL_ (some 9) rfl rfl Try.func66 (by kernel_rfl) rfl #[.int .i64 a2] rfl (by (try simp only [List.map_toArray, List.map_cons, List.map_nil]); first | done | rfl | (simp only [List.length_drop, List.length_take]; rfl)) ?_; (with_reducible refine (wrap_good.calls a2 true _ A4.out).mono ?_); rintro e w' ⟨rfl, ⟨nd, rfl⟩⟩; refine ⟨_, rfl, ?_⟩))
      go_ret
      exact ⟨by first | rfl | (simp; done) | (simp only [← hji9] <;> (first | rfl | simp)) | (simp [*]; done), by repeat (first | exact Drawn0.refl _ | apply Drawn0.step)⟩
     ·rw [if_neg c10] at H
      have c10b0 : decide ((ji9) ≤ a0) = false := decide_eq_false c10
      clear c10
      have c11b0 := eq_true (of_decide_eq_true (by first | (with_reducible assumption) | assumption) : 0 ≤ a2)
      by_cases c12 : a1 ≥ (ji9)
      ·rw [if_pos c12] at H
       have c12b0 : decide ((ji9) ≤ a1) = true := decide_eq_true c12
       clear c12
       obtain rfl := Option.some.inj H
       go_enter Try.func73, Try.ntmps73
       go_wp2_with (first | ((with_reducible refine gate_callee (f := 66) rfl ?_); refine goesL_ (some 9) rfl rfl Try.func66 (by kernel_rfl) rfl #[.int .i64 a2] rfl (by (try simp only [List.map_toArray, List.map_cons, List.map_nil]); first | done | rfl | (simp only [List.length_drop, List.length_take]; rfl)) ?_; (with_reducible refine (wrap_good.calls a2 true _ A4.out).mono ?_); rintro e w' ⟨rfl, ⟨nd, rfl⟩⟩; refine ⟨_, rfl, ?_⟩))
       go_ret
       exact ⟨by first | rfl | (simp; done) | (simp only [← hji9] <;> (first | rfl | simp)) | (simp [*]; done), by repeat (first | exact Drawn0.refl _ | apply Drawn0.step)⟩
      ·rw [if_neg c12] at H
       have c12b0 : decide ((ji9) ≤ a1) = false := decide_eq_false c12
       clear c12
       replace H := Option.bind_eq_some_iff.mp H
       obtain ⟨t257, A130, H⟩ := H
       replace H : (if t257 ≥ 1 then (if 0 ≤ (wrap64 (a2 - 1)) then (some (decide (t257 < (shl .i64 1 (wrap64 (a2 - 1)))))) else (none)) else (some false)) = some r := H
       have A13 := Aside0.mk A130
       clear A130
       by_cases c14 : t257 ≥ 1
       ·rw [if_pos c14] at H
        have c14b0 : decide (1 ≤ t257) = true := decide_eq_true c14
        clear c14
        obtain ⟨ji15, hji15⟩ : ∃ j_ : Int, (wrap64 (a2 - 1)) = j_ := ⟨_, rfl⟩
        replace H : (if 0 ≤ (ji15) then (some (decide (t257 < (shl .i64 1 (ji15))))) else (none)) = some r := by first | (rw [hji15] at H; exact H) | (simp only [hji15] at H ⊢; exact H)
        (try rw [hji15] at A4)
        (try rw [hji15] at A13)
        have hji15w : (IntKind.i64.wrap (a2 - 1)) = ji15 := (i64_w _).trans hji15
        by_cases c16 : 0 ≤ (ji15)
        ·rw [if_pos c16] at H
         have c16b0 := eq_true c16
         have c16b1 : decide (0 ≤ (ji15)) = true := decide_eq_true c16
         clear c16
         obtain ⟨ji17, hji17⟩ : ∃ j_ : Int, (shl .i64 1 (ji15)) = j_ := ⟨_, rfl⟩
         replace H : (some (decide (t257 < (ji17)))) = some r := by first | (rw [hji17] at H; exact H) | (simp only [hji17] at H ⊢; exact H)
         (try rw [hji17] at A4)
         (try rw [hji17] at A13)
         have hji17_ : (IntKind.i64.wrap (1 * 2 ^ min (ji15).toNat 64)) = ji17 := hji17
         have hji17z : (ji15) ≤ 64 → (IntKind.i64.wrap (1 * 2 ^ (ji15).toNat)) = ji17 := shl_small hji17
         have hji17u : (IntKind.i64.wrap (2 ^ min (ji15).toNat 64)) = ji17 := by have h_ := hji17_; rw [Int.one_mul] at h_; exact h_
         have hji17v : (ji15) ≤ 64 → (IntKind.i64.wrap (2 ^ (ji15).toNat)) = ji17 := fun hle_ => by have h_ := hji17z hle_; rw [Int.one_mul] at h_; exact h_
         have hji17y : (wrap64 (1 * 2 ^ min (ji15).toNat 64)) = ji17 := (i64_w _).symm.trans hji17_
         have hji17x : (ji15) ≤ 64 → (wrap64 (1 * 2 ^ (ji15).toNat)) = ji17 := fun h_ => (i64_w _).symm.trans (hji17z h_)
         obtain rfl := Option.some.inj H
         go_enter Try.func73, Try.ntmps73
         go_wp2_with (first | ((with_reducible refine gate_callee (f := 66) rfl ?_); refine goesL_ (some 9) rfl rfl Try.func66 (by kernel_rfl) rfl #[.int .i64 a2] rfl (by (try simp only [List.map_toArray, List.map_cons, List.map_nil]); first | done | rfl | (simp only [List.length_drop, List.length_take]; rfl)) ?_; (with_reducible refine (wrap_good.calls a2 true _ A4.out).mono ?_); rintro e w' ⟨rfl, ⟨nd, rfl⟩⟩; refine ⟨_, rfl, ?_⟩) | ((with_reducible refine gate_callee (f := 69) rfl ?_); refine goesL_ (some 35) rfl rfl Try.func69 (by kernel_rfl) rfl #[.int .i64 (wrap64 (a0 - a1)), .int .i64 a2] rfl (by (try simp only [List.map_toArray, List.map_cons, List.map_nil]); first | done | rfl | (simp only [List.length_drop, List.length_take]; rfl)) ?_; (with_reducible refine (wrap_lower_int.calls (wrap64 (a0 - a1)) a2 t257 _ A13.out).mono ?_); rintro e w' ⟨rfl, ⟨nd, rfl⟩⟩; refine ⟨_, rfl, ?_⟩))
         go_ret
         exact ⟨by first | rfl | (simp; done) | (simp only [← hji9, ← hji15, ← hji17] <;> (first | rfl | simp)) | (simp [*]; done), by repeat (first | exact Drawn0.refl _ | apply Drawn0.step)⟩
        ·rw [if_neg c16] at H
         exact absurd H (by simp)
       ·rw [if_neg c14] at H
        have c14b0 : decide (1 ≤ t257) = false := decide_eq_false c14
        clear c14
        obtain rfl := Option.some.inj H
        go_enter Try.func73, Try.ntmps73
        go_wp2_with (first | ((with_reducible refine gate_callee (f := 66) rfl ?_); refine goesL_ (some 9) rfl rfl Try.func66 (by kernel_rfl) rfl #[.int .i64 a2] rfl (by (try simp only [List.map_toArray, List.map_cons, List.map_nil]); first | done | rfl | (simp only [List.length_drop, List.length_take]; rfl)) ?_; (with_reducible refine (wrap_good.calls a2 true _ A4.out).mono ?_); rintro e w' ⟨rfl, ⟨nd, rfl⟩⟩; refine ⟨_, rfl, ?_⟩) | ((with_reducible refine gate_callee (f := 69) rfl ?_); refine goesL_ (some 35) rfl rfl Try.func69 (by kernel_rfl) rfl #[.int .i64 (wrap64 (a0 - a1)), .int .i64 a2] rfl (by (try simp only [List.map_toArray, List.map_cons, List.map_nil]); first | done | rfl | (simp only [List.length_drop, List.length_take]; rfl)) ?_; (with_reducible refine (wrap_lower_int.calls (wrap64 (a0 - a1)) a2 t257 _ A13.out).mono ?_); rintro e w' ⟨rfl, ⟨nd, rfl⟩⟩; refine ⟨_, rfl, ?_⟩))
        go_ret
        exact ⟨by first | rfl | (simp; done) | (simp only [← hji9] <;> (first | rfl | simp)) | (simp [*]; done), by repeat (first | exact Drawn0.refl _ | apply Drawn0.step)⟩
    ·rw [if_neg c8] at H
     exact absurd H (by simp)
 ·replace c5 := Bool.eq_false_iff.mpr c5
  subst c5
  have H1 : (some false) = some r := by rw [if_neg (show ¬ (false = true) by decide)] at H; exact H
  clear H
  have H := H1
  clear H1
  obtain rfl := Option.some.inj H
  go_enter Try.func73, Try.ntmps73
  go_wp2_with (first | ((with_reducible refine gate_callee (f := 66) rfl ?_); refine goesL_ (some 9) rfl rfl Try.func66 (by kernel_rfl) rfl #[.int .i64 a2] rfl (by (try simp only [List.map_toArray, List.map_cons, List.map_nil]); first | done | rfl | (simp only [List.length_drop, List.length_take]; rfl)) ?_; (with_reducible refine (wrap_good.calls a2 false _ A4.out).mono ?_); rintro e w' ⟨rfl, ⟨nd, rfl⟩⟩; refine ⟨_, rfl, ?_⟩))
  go_ret
  exact ⟨by first | rfl | (simp; done) | (simp [*]; done), by repeat (first | exact Drawn0.refl _ | apply Drawn0.step)⟩
def wrap_After.f (a0 : Int) (a1 : Int) (a2 : Int) : Option (Bool) := if a2 = 16 then (some (B.after16 a0 a1)) else (none)
theorem wrap_After.told (a0 a1 : Int) : wrap_After_p.f a0 a1 16 = some (B.after16 a0 a1) := by
 have e : shl .i64 1 16 = 65536 := by rfl
 have e15 : shl .i64 1 (wrap64 (16 - 1)) = 32768 := by rw [show wrap64 (16 - 1) = 15 from by unfold wrap64; omega]; rfl
 have e16 : wrap64 (65536 - 1) = 65535 := by unfold wrap64; omega
 have e17 : (0 : Int) ≤ wrap64 (16 - 1) := by unfold wrap64; omega
 have e18 : (0 : Int) ≤ wrap64 15 := by unfold wrap64; omega
 unfold wrap_After_p.f wrap_good.f wrap_lower_int.f B.after16
 rw [e, e15, e16]
 by_cases h1 : a0 < 0
 ·have h1' : ¬ 0 ≤ a0 := by omega
  simp [h1, h1']
 have h1' : 0 ≤ a0 := by omega
 by_cases h2 : a1 < 0
 ·have h2' : ¬ 0 ≤ a1 := by omega
  simp [h1, h2, h2']
 have h2' : 0 ≤ a1 := by omega
 by_cases h3 : 65536 ≤ a0
 ·have h3' : ¬ a0 < 65536 := by omega
  simp [h1, h2, h3, h3']
 have h3' : a0 < 65536 := by omega
 by_cases h4 : 65536 ≤ a1
 ·have h4' : ¬ a1 < 65536 := by omega
  simp [h1, h2, h3, h4, h4']
 have h4' : a1 < 65536 := by omega
 have hw : wrap64 (a0 - a1) = a0 - a1 := by unfold wrap64; omega
 rw [hw, B.and_65535]
 by_cases h5 : (a0 - a1) % 65536 ≥ 1
 ·have h5' : 1 ≤ (a0 - a1) % 65536 := h5
  simp [h1, h2, h3, h4, h5, h1', h2', h3', h4', h5', e18]
 ·have h5' : ¬ 1 ≤ (a0 - a1) % 65536 := h5
  simp [h1, h2, h3, h4, h5, h1', h2', h3', h4', h5']
theorem wrap_After.calls (a0 : Int) (a1 : Int) (a2 : Int) (r : Bool) (w : World) (h : wrap_After.f a0 a1 a2 = some r) :
  Calls Try.prog 73 #[.int .i64 a0, .int .i64 a1, .int .i64 a2] w fun e w' => e = .returned (.bool r) ∧ Drawn0 w w' := by
 unfold wrap_After.f at h
 by_cases h2 : a2 = 16
 ·subst h2
  rw [if_pos rfl] at h
  exact wrap_After_p.calls a0 a1 16 r w ((wrap_After.told a0 a1).trans h)
 ·rw [if_neg h2] at h; cases h
def nack_fault_p.l0 : Nat → List Int → List Int → Int → Int → Option (Int)
 | 0, _, _, _, _ => none
 | k + 1, x0, x8, x9, x10 => if x10 < x9 then (if 0 ≤ x10 then (if x10 < (x8.length : Int) then (if (rd x8 x10) < 0 then (some 110) else (if (rd x8 x10) > 65535 then (some 110) else (if x10 > 0 then (if 0 ≤ (wrap64 (x10 - 1)) then (if (wrap64 (x10 - 1)) < (x0.length : Int) then ((wrap_After.f (rd x8 x10) (rd x0 (wrap64 (x10 - 1))) 16).bind fun t260 => (if t260 = true then (if 0 < (x0.length : Int) then ((wrap_After.f (rd x8 x10) (rd x0 0) 16).bind fun t262 => (if t262 = true then (nack_fault_p.l0 k x0 x8 x9 (wrap64 (x10 + 1))) else (some 110))) else (none)) else (some 110))) else (none)) else (none)) else (nack_fault_p.l0 k x0 x8 x9 (wrap64 (x10 + 1)))))) else (none)) else (none)) else (if (x0.length : Int) = 0 then (some 110) else (some 0))
def nack_fault_p.f (k : Nat) (l0 : List Int) : Option (Int) := if (l0.length : Int) > 4096 then (some 3) else (nack_fault_p.l0 k l0 l0 (l0.length : Int) 0)
theorem nack_fault_p.mono_l : ∀ k, (∀ y0 y1 y2 y3, LeO (nack_fault_p.l0 k y0 y1 y2 y3) (nack_fault_p.l0 (k + 1) y0 y1 y2 y3))
 | 0 => fun _ _ _ _ r h => by simp [nack_fault_p.l0] at h
 | k + 1 => by
  have ih0 := nack_fault_p.mono_l k
  ·intro y0 y1 y2 y3
   unfold nack_fault_p.l0
   repeat' first
   | (with_reducible exact ih0 _ _ _ _)
   | (with_reducible exact LeO.refl _)
   | (with_reducible exact LeO.none _)
   | (with_reducible refine LeO.ite ?_ ?_)
   | (with_reducible refine LeO.bind ?_ (fun _ => ?_))
   | exact ih0 _ _ _ _
   | exact LeO.none _
   | refine LeO.ite ?_ ?_
   | refine LeO.bind ?_ (fun _ => ?_)
theorem nack_fault_p.mono : ∀ a0 k, LeO (nack_fault_p.f k a0) (nack_fault_p.f (k + 1) a0) := by
 intro a0 k
 have ih0 := nack_fault_p.mono_l k
 unfold nack_fault_p.f
 repeat' first
   | (with_reducible exact ih0 _ _ _ _)
   | (with_reducible exact LeO.refl _)
   | (with_reducible exact LeO.none _)
   | (with_reducible refine LeO.ite ?_ ?_)
   | (with_reducible refine LeO.bind ?_ (fun _ => ?_))
   | exact ih0 _ _ _ _
   | exact LeO.none _
   | refine LeO.ite ?_ ?_
   | refine LeO.bind ?_ (fun _ => ?_)
set_option maxHeartbeats 8000000 in
set_option maxRecDepth 100000 in
theorem nack_fault_p.calls (k : Nat) (A0 : Option Addr) (c0 : Nat) (l0 : List Int) (r : Int) (w : World) (hr0 : Kd.C (Kd.int .i64) w A0 l0.length l0) (hc0 : l0.length ≤ c0) (h : nack_fault_p.f k l0 = some r) :
  Calls Try.prog 64 #[.slice A0 l0.length c0] w fun e w' => e = .returned (.int .i64 r) ∧ Drawn0 w w' := by
 have HR0 := Aside0.mk hr0
 have HC0 := Aside0.mk hc0
 clear hr0 hc0
 have H : (if (l0.length : Int) > 4096 then (some 3) else (nack_fault_p.l0 k l0 l0 (l0.length : Int) 0)) = some r := h
 clear h
 by_cases c2 : (l0.length : Int) > 4096
 ·rw [if_pos c2] at H
  have c2b0 : decide (4096 < (l0.length : Int)) = true := decide_eq_true c2
  have c2b1 : decide (4096 < l0.length) = true := decide_eq_true (by omega)
  clear c2
  obtain rfl := Option.some.inj H
  go_enter Try.func64, Try.ntmps64
  go_wp2
  go_ret
  exact ⟨by first | rfl | (simp; done) | (simp [*]; done), by repeat (first | exact Drawn0.refl _ | apply Drawn0.step)⟩
 ·rw [if_neg c2] at H
  have c2b0 : decide (4096 < (l0.length : Int)) = false := decide_eq_false c2
  have c2b1 : decide (4096 < l0.length) = false := decide_eq_false (by omega)
  clear c2
  have H' := Aside0.mk H
  clear H
  go_enter Try.func64, Try.ntmps64
  go_wp2
  go_loopg [10] k (fun kq v10 w' => ∃ (x10_1 : Int), v10 = .int .i64 x10_1 ∧ Aside0 (nack_fault_p.l0 kq l0 l0 (l0.length : Int) x10_1 = some r) ∧ Aside0 (kq ≤ k) ∧ Drawn0 w w')
  case atStart => exact ⟨(0), (by first | rfl | (simp; done) | (simp [*]; done)), H', ⟨Nat.le_refl _⟩, by repeat (first | exact Drawn0.refl _ | apply Drawn0.step)⟩
  case round =>
   clear H'
   try clear c2
   try clear c2b0
   try clear c2b1
   try clear p2
   obtain ⟨x10_1, rfl, HA, HK1, ⟨m1, rfl⟩⟩ := hrel
   cases gk with
   | zero => exact absurd HA.out (by simp [nack_fault_p.l0])
   | succ k1 =>
    have H := HA.out
    clear HA
    simp only [nack_fault_p.l0] at H
    by_cases c3 : x10_1 < (l0.length : Int)
    ·rw [if_pos c3] at H
     have c3b0 : decide (x10_1 < (l0.length : Int)) = true := decide_eq_true c3
     clear c3
     by_cases c4 : 0 ≤ x10_1
     ·rw [if_pos c4] at H
      have c4b0 : decide (0 ≤ x10_1) = true := decide_eq_true c4
      clear c4
      by_cases c5 : x10_1 < (l0.length : Int)
      ·rw [if_pos c5] at H
       have c5b0 : decide (x10_1 < (l0.length : Int)) = true := decide_eq_true c5
       clear c5
       by_cases c6 : (rd l0 x10_1) < 0
       ·rw [if_pos c6] at H
        have c6b0 : decide ((rd l0 x10_1) < 0) = true := decide_eq_true c6
        clear c6
        obtain rfl := Option.some.inj H
        have p258 : 0 ≤ (x10_1 : Int) := of_decide_eq_true (by first | (with_reducible assumption) | assumption)
        have q258 : x10_1 < (l0.length : Int) := of_decide_eq_true (by first | (with_reducible assumption) | assumption)
        obtain ⟨ad258, e258, hx258_0⟩ := Kd.at_int HR0.out x10_1 p258 q258
        cases e258
        replace p258 := eq_true p258
        replace q258 := eq_true q258
        go_wp2
        go_ret
        exact ⟨by first | rfl | (simp; done) | (simp [*]; done), by repeat (first | exact Drawn0.refl _ | apply Drawn0.step)⟩
       ·rw [if_neg c6] at H
        have c6b0 : decide ((rd l0 x10_1) < 0) = false := decide_eq_false c6
        clear c6
        by_cases c7 : (rd l0 x10_1) > 65535
        ·rw [if_pos c7] at H
         have c7b0 : decide (65535 < (rd l0 x10_1)) = true := decide_eq_true c7
         clear c7
         obtain rfl := Option.some.inj H
         have p258 : 0 ≤ (x10_1 : Int) := of_decide_eq_true (by first | (with_reducible assumption) | assumption)
         have q258 : x10_1 < (l0.length : Int) := of_decide_eq_true (by first | (with_reducible assumption) | assumption)
         obtain ⟨ad258, e258, hx258_0⟩ := Kd.at_int HR0.out x10_1 p258 q258
         cases e258
         replace p258 := eq_true p258
         replace q258 := eq_true q258
         go_wp2
         go_ret
         exact ⟨by first | rfl | (simp; done) | (simp [*]; done), by repeat (first | exact Drawn0.refl _ | apply Drawn0.step)⟩
        ·rw [if_neg c7] at H
         have c7b0 : decide (65535 < (rd l0 x10_1)) = false := decide_eq_false c7
         clear c7
         by_cases c8 : x10_1 > 0
         ·rw [if_pos c8] at H
          have c8b0 : decide (0 < x10_1) = true := decide_eq_true c8
          clear c8
          obtain ⟨ji9, hji9⟩ : ∃ j_ : Int, (wrap64 (x10_1 - 1)) = j_ := ⟨_, rfl⟩
          replace H : (if 0 ≤ (ji9) then (if (ji9) < (l0.length : Int) then ((wrap_After.f (rd l0 x10_1) (rd l0 (ji9)) 16).bind fun t260 => (if t260 = true then (if 0 < (l0.length : Int) then ((wrap_After.f (rd l0 x10_1) (rd l0 0) 16).bind fun t262 => (if t262 = true then (nack_fault_p.l0 k1 l0 l0 (l0.length : Int) (wrap64 (x10_1 + 1))) else (some 110))) else (none)) else (some 110))) else (none)) else (none)) = some r := by first | (rw [hji9] at H; exact H) | (simp only [hji9] at H ⊢; exact H)
          have hji9w : (IntKind.i64.wrap (x10_1 - 1)) = ji9 := (i64_w _).trans hji9
          by_cases c10 : 0 ≤ (ji9)
          ·rw [if_pos c10] at H
           have c10b0 : decide (0 ≤ (ji9)) = true := decide_eq_true c10
           clear c10
           by_cases c11 : (ji9) < (l0.length : Int)
           ·rw [if_pos c11] at H
            have c11b0 : decide ((ji9) < (l0.length : Int)) = true := decide_eq_true c11
            clear c11
            replace H := Option.bind_eq_some_iff.mp H
            obtain ⟨t260, A120, H⟩ := H
            replace H : (if t260 = true then (if 0 < (l0.length : Int) then ((wrap_After.f (rd l0 x10_1) (rd l0 0) 16).bind fun t262 => (if t262 = true then (nack_fault_p.l0 k1 l0 l0 (l0.length : Int) (wrap64 (x10_1 + 1))) else (some 110))) else (none)) else (some 110)) = some r := H
            have A12 := Aside0.mk A120
            clear A120
            by_cases c13 : t260 = true
            ·subst c13
             have H1 : (if 0 < (l0.length : Int) then ((wrap_After.f (rd l0 x10_1) (rd l0 0) 16).bind fun t262 => (if t262 = true then (nack_fault_p.l0 k1 l0 l0 (l0.length : Int) (wrap64 (x10_1 + 1))) else (some 110))) else (none)) = some r := by rw [if_pos rfl] at H; exact H
             clear H
             have H := H1
             clear H1
             by_cases c14 : 0 < (l0.length : Int)
             ·rw [if_pos c14] at H
              have c14b0 : decide (0 < (l0.length : Int)) = true := decide_eq_true c14
              have c14b1 : decide (0 < l0.length) = true := decide_eq_true (by omega)
              clear c14
              replace H := Option.bind_eq_some_iff.mp H
              obtain ⟨t262, A150, H⟩ := H
              replace H : (if t262 = true then (nack_fault_p.l0 k1 l0 l0 (l0.length : Int) (wrap64 (x10_1 + 1))) else (some 110)) = some r := H
              have A15 := Aside0.mk A150
              clear A150
              by_cases c16 : t262 = true
              ·subst c16
               have H1 : (nack_fault_p.l0 k1 l0 l0 (l0.length : Int) (wrap64 (x10_1 + 1))) = some r := by rw [if_pos rfl] at H; exact H
               clear H
               have H := H1
               clear H1
               have H' := Aside0.mk H
               clear H
               have p258 : 0 ≤ (x10_1 : Int) := of_decide_eq_true (by first | (with_reducible assumption) | assumption)
               have q258 : x10_1 < (l0.length : Int) := of_decide_eq_true (by first | (with_reducible assumption) | assumption)
               obtain ⟨ad258, e258, hx258_0⟩ := Kd.at_int HR0.out x10_1 p258 q258
               cases e258
               replace p258 := eq_true p258
               replace q258 := eq_true q258
               have p259 : 0 ≤ ((ji9) : Int) := of_decide_eq_true (by first | (with_reducible assumption) | assumption)
               have q259 : (ji9) < (l0.length : Int) := of_decide_eq_true (by first | (with_reducible assumption) | assumption)
               obtain ⟨ad259, e259, hx259_0⟩ := Kd.at_int HR0.out (ji9) p259 q259
               obtain rfl : ad258 = ad259 := (by injection e259)
               replace p259 := eq_true p259
               replace q259 := eq_true q259
               go_wp2_with (first | (go_at_call 73; (with_reducible refine (wrap_After.calls (rd l0 x10_1) (rd l0 (ji9)) 16 true _ A12.out).mono ?_); rintro e w' ⟨rfl, ⟨nd, rfl⟩⟩; have p261 : 0 ≤ (0 : Int) := (by omega); have q261 : 0 < (l0.length : Int) := of_decide_eq_true (by first | (with_reducible assumption) | assumption); obtain ⟨ad261, e261, hx261_0⟩ := Kd.at_int HR0.out 0 p261 q261; obtain rfl : ad258 = ad261 := (by injection e261); have qi261 : (0 < l0.length) = True := eq_true (by omega); (try rw [show ((0 : Int)).toNat = 0 from rfl] at hx261_0); (try rw [Addr.add_zero'] at hx261_0); replace p261 := eq_true p261; replace q261 := eq_true q261) | (go_at_call 73; (with_reducible refine (wrap_After.calls (rd l0 x10_1) (rd l0 0) 16 true _ A15.out).mono ?_); rintro e w' ⟨rfl, ⟨nd, rfl⟩⟩))
               go_roundg k1
               case measure => have := HK1.out; omega
               case rel => exact ⟨(wrap64 (x10_1 + 1)), (by first | rfl | (simp; done) | (simp [*]; done)), H', ⟨by have := HK1.out; omega⟩, by repeat (first | exact Drawn0.refl _ | apply Drawn0.step)⟩
              ·replace c16 := Bool.eq_false_iff.mpr c16
               subst c16
               have H1 : (some 110) = some r := by rw [if_neg (show ¬ (false = true) by decide)] at H; exact H
               clear H
               have H := H1
               clear H1
               obtain rfl := Option.some.inj H
               have p258 : 0 ≤ (x10_1 : Int) := of_decide_eq_true (by first | (with_reducible assumption) | assumption)
               have q258 : x10_1 < (l0.length : Int) := of_decide_eq_true (by first | (with_reducible assumption) | assumption)
               obtain ⟨ad258, e258, hx258_0⟩ := Kd.at_int HR0.out x10_1 p258 q258
               cases e258
               replace p258 := eq_true p258
               replace q258 := eq_true q258
               have p259 : 0 ≤ ((ji9) : Int) := of_decide_eq_true (by first | (with_reducible assumption) | assumption)
               have q259 : (ji9) < (l0.length : Int) := of_decide_eq_true (by first | (with_reducible assumption) | assumption)
               obtain ⟨ad259, e259, hx259_0⟩ := Kd.at_int HR0.out (ji9) p259 q259
               obtain rfl : ad258 = ad259 := (by injection e259)
               replace p259 := eq_true p259
               replace q259 := eq_true q259
               go_wp2_with (first | (go_at_call 73; (with_reducible refine (wrap_After.calls (rd l0 x10_1) (rd l0 (ji9)) 16 true _ A12.out).mono ?_); rintro e w' ⟨rfl, ⟨nd, rfl⟩⟩; have p261 : 0 ≤ (0 : Int) := (by omega); have q261 : 0 < (l0.length : Int) := of_decide_eq_true (by first | (with_reducible assumption) | assumption); obtain ⟨ad261, e261, hx261_0⟩ := Kd.at_int HR0.out 0 p261 q261; obtain rfl : ad258 = ad261 := (by injection e261); have qi261 : (0 < l0.length) = True := eq_true (by omega); (try rw [show ((0 : Int)).toNat = 0 from rfl] at hx261_0); (try rw [Addr.add_zero'] at hx261_0); replace p261 := eq_true p261; replace q261 := eq_true q261) | (go_at_call 73; (with_reducible refine (wrap_After.calls (rd l0 x10_1) (rd l0 0) 16 false _ A15.out).mono ?_); rintro e w' ⟨rfl, ⟨nd, rfl⟩⟩))
               go_ret
               exact ⟨by first | rfl | (simp; done) | (simp only [← hji9] <;> (first | rfl | simp)) | (simp [*]; done), by repeat (first | exact Drawn0.refl _ | apply Drawn0.step)⟩
             ·rw [if_neg c14] at H
              exact absurd H (by simp)
            ·replace c13 := Bool.eq_false_iff.mpr c13
             subst c13
             have H1 : (some 110) = some r := by rw [if_neg (show ¬ (false = true) by decide)] at H; exact H
             clear H
             have H := H1
             clear H1
             obtain rfl := Option.some.inj H
             have p258 : 0 ≤ (x10_1 : Int) := of_decide_eq_true (by first | (with_reducible assumption) | assumption)
             have q258 : x10_1 < (l0.length : Int) := of_decide_eq_true (by first | (with_reducible assumption) | assumption)
             obtain ⟨ad258, e258, hx258_0⟩ := Kd.at_int HR0.out x10_1 p258 q258
             cases e258
             replace p258 := eq_true p258
             replace q258 := eq_true q258
             have p259 : 0 ≤ ((ji9) : Int) := of_decide_eq_true (by first | (with_reducible assumption) | assumption)
             have q259 : (ji9) < (l0.length : Int) := of_decide_eq_true (by first | (with_reducible assumption) | assumption)
             obtain ⟨ad259, e259, hx259_0⟩ := Kd.at_int HR0.out (ji9) p259 q259
             obtain rfl : ad258 = ad259 := (by injection e259)
             replace p259 := eq_true p259
             replace q259 := eq_true q259
             go_wp2_with (first | (go_at_call 73; (with_reducible refine (wrap_After.calls (rd l0 x10_1) (rd l0 (ji9)) 16 false _ A12.out).mono ?_); rintro e w' ⟨rfl, ⟨nd, rfl⟩⟩))
             go_ret
             exact ⟨by first | rfl | (simp; done) | (simp only [← hji9] <;> (first | rfl | simp)) | (simp [*]; done), by repeat (first | exact Drawn0.refl _ | apply Drawn0.step)⟩
           ·rw [if_neg c11] at H
            exact absurd H (by simp)
          ·rw [if_neg c10] at H
           exact absurd H (by simp)
         ·rw [if_neg c8] at H
          have c8b0 : decide (0 < x10_1) = false := decide_eq_false c8
          clear c8
          have H' := Aside0.mk H
          clear H
          have p258 : 0 ≤ (x10_1 : Int) := of_decide_eq_true (by first | (with_reducible assumption) | assumption)
          have q258 : x10_1 < (l0.length : Int) := of_decide_eq_true (by first | (with_reducible assumption) | assumption)
          obtain ⟨ad258, e258, hx258_0⟩ := Kd.at_int HR0.out x10_1 p258 q258
          cases e258
          replace p258 := eq_true p258
          replace q258 := eq_true q258
          go_wp2
          go_roundg k1
          case measure => have := HK1.out; omega
          case rel => exact ⟨(wrap64 (x10_1 + 1)), (by first | rfl | (simp; done) | (simp [*]; done)), H', ⟨by have := HK1.out; omega⟩, by repeat (first | exact Drawn0.refl _ | apply Drawn0.step)⟩
      ·rw [if_neg c5] at H
       exact absurd H (by simp)
     ·rw [if_neg c4] at H
      exact absurd H (by simp)
    ·rw [if_neg c3] at H
     have c3b0 : decide (x10_1 < (l0.length : Int)) = false := decide_eq_false c3
     clear c3
     by_cases c17 : (l0.length : Int) = 0
     ·rw [if_pos c17] at H
      have c17b0 : ((l0.length : Int) == 0) = true := beq_iff_eq.mpr c17
      have c17b1 : ((l0.length : Int) != 0) = false := bne_eq_false_iff_eq.mpr c17
      clear c17
      obtain rfl := Option.some.inj H
      go_wp2
      go_ret
      exact ⟨by first | rfl | (simp; done) | (simp [*]; done), by repeat (first | exact Drawn0.refl _ | apply Drawn0.step)⟩
     ·rw [if_neg c17] at H
      have c17b0 : ((l0.length : Int) == 0) = false := beq_eq_false_iff_ne.mpr c17
      have c17b1 : ((l0.length : Int) != 0) = true := bne_iff_ne.mpr c17
      have c17b2 : ¬ (l0 = []) := fun h_ => c17 (by rw [h_]; rfl)
      obtain rfl := Option.some.inj H
      go_wp2
      go_ret
      exact ⟨by first | rfl | (simp; done) | (simp [*]; done), by repeat (first | exact Drawn0.refl _ | apply Drawn0.step)⟩
def nack_fault.f (l0 : List Int) : Option (Int) := some (if 4096 < l0.length then 3 else if B.goodB l0 = true then 0 else 110)
theorem rd_at (l : List Int) (i : Nat) (h : i < l.length) : rd l (i : Int) = l[i] := by simp [rd, List.getD_eq_getElem?_getD, List.getElem?_eq_getElem h]
theorem nack_fault.loop (l : List Int) (hn : l.length ≤ 4096) (h0 : 0 < l.length) (d : Nat) : ∀ (k i : Nat), 1 ≤ i → i ≤ l.length → l.length - i = d → d < k →
  nack_fault_p.l0 k l l (l.length : Int) (i : Int) = some (if B.goodTail (l.getD 0 0) (l.getD (i - 1) 0) (l.drop i) = true then 0 else 110) := by
 induction d with
 | zero =>
  intro k i h1 h2 hd hk
  obtain ⟨k, rfl⟩ : ∃ m, k = m + 1 := ⟨k - 1, by omega⟩
  have hi : i = l.length := by omega
  subst hi
  simp only [nack_fault_p.l0]
  rw [if_neg (by omega), if_neg (by omega), List.drop_length]
  simp [B.goodTail]
 | succ d ih =>
  intro k i h1 h2 hd hk
  obtain ⟨k, rfl⟩ : ∃ m, k = m + 1 := ⟨k - 1, by omega⟩
  have hlt : i < l.length := by omega
  have hr := rd_at l i hlt
  have hw : wrap64 ((i : Int) - 1) = ((i - 1 : Nat) : Int) := by unfold wrap64; omega
  have hw1 : wrap64 ((i : Int) + 1) = ((i + 1 : Nat) : Int) := by unfold wrap64; omega
  have hrm := rd_at l (i - 1) (by omega)
  have hr0 := rd_at l 0 h0
  have ih' := ih k (i + 1) (by omega) (by omega) (by omega) (by omega)
  rw [show i + 1 - 1 = i by omega] at ih'
  rw [List.drop_eq_getElem_cons hlt]
  have g0 : l.getD 0 0 = l[0] := by simp [List.getD_eq_getElem?_getD, List.getElem?_eq_getElem h0]
  have gi : l.getD i 0 = l[i] := by simp [List.getD_eq_getElem?_getD, List.getElem?_eq_getElem hlt]
  have gm : l.getD (i - 1) 0 = l[i - 1] := by simp [List.getD_eq_getElem?_getD, List.getElem?_eq_getElem (show i - 1 < l.length by omega)]
  rw [gi] at ih'
  simp only [nack_fault_p.l0]
  rw [if_pos (by omega), if_pos (by omega), if_pos (by omega), hr]
  have hr0' : rd l 0 = l[0] := hr0
  simp only [hw, hw1, hrm]
  rw [hr0', ih', g0, gm]
  simp only [B.goodTail, wrap_After.f, if_true, Option.bind_some]
  by_cases c1 : l[i] < 0
  ·rw [if_pos c1]
   have : B.after16 l[i] l[i - 1] = false := by rw [← Bool.not_eq_true, B.after16_iff]; omega
   simp [this]
  rw [if_neg c1]
  by_cases c2 : l[i] > 65535
  ·rw [if_pos c2]
   have : B.after16 l[i] l[i - 1] = false := by rw [← Bool.not_eq_true, B.after16_iff]; omega
   simp [this]
  rw [if_neg c2, if_pos (by omega), if_pos (by omega), if_pos (by omega), if_pos (show (0 : Int) < (l.length : Int) by omega)]
  rcases Bool.eq_false_or_eq_true (B.after16 l[i] l[i - 1]) with e1 | e1 <;> rcases Bool.eq_false_or_eq_true (B.after16 l[i] l[0]) with e2 | e2 <;> simp [e1, e2]
theorem nack_fault.told (l : List Int) : nack_fault_p.f (l.length + 2) l = some (if 4096 < l.length then 3 else if B.goodB l = true then 0 else 110) := by
 unfold nack_fault_p.f
 by_cases h : l.length > 4096
 ·rw [if_pos (by omega), if_pos h]
 rw [if_neg (by omega), if_neg h]
 cases l with
 | nil => simp [nack_fault_p.l0, B.goodB]
 | cons n t =>
  have hl := nack_fault.loop (n :: t) (by simp at h ⊢; omega) (by simp) t.length (t.length + 2) 1 (by omega) (by simp) (by simp) (by omega)
  simp only [List.length_cons] at h hl ⊢
  rw [show t.length + 1 + 2 = (t.length + 2) + 1 by omega]
  obtain ⟨K, hK⟩ : ∃ K, t.length + 2 = K := ⟨_, rfl⟩
  rw [hK] at hl ⊢
  simp only [nack_fault_p.l0]
  have hr0 : rd (n :: t) 0 = n := rfl
  have hw1 : wrap64 ((0 : Int) + 1) = ((1 : Nat) : Int) := by unfold wrap64; omega
  rw [if_pos (by omega), if_pos (by omega), if_pos (by simp), hr0, hw1, hl]
  simp only [B.goodB, List.getD_cons_zero, Nat.sub_self, List.drop_succ_cons, List.drop_zero]
  by_cases c1 : n < 0
  ·rw [if_pos c1]; simp [show ¬ 0 ≤ n by omega]
  rw [if_neg c1]
  by_cases c2 : n > 65535
  ·rw [if_pos c2]; simp [show ¬ n ≤ 65535 by omega]
  rw [if_neg c2, if_neg (by omega)]
  simp [show 0 ≤ n by omega, show n ≤ 65535 by omega, show t.length < 4096 by omega]
theorem nack_fault.calls (A0 : Option Addr) (c0 : Nat) (l0 : List Int) (r : Int) (w : World) (hr0 : Kd.C (Kd.int .i64) w A0 l0.length l0) (hc0 : l0.length ≤ c0) (h : nack_fault.f l0 = some r) :
  Calls Try.prog 64 #[.slice A0 l0.length c0] w fun e w' => e = .returned (.int .i64 r) ∧ Drawn0 w w' :=
 nack_fault_p.calls (l0.length + 2) A0 c0 l0 r w hr0 hc0 ((nack_fault.told l0).trans h)
def nack_Decode.f (a0 : ByteArray) : Option (Int × Int × List Int × Int) := if a0.size ≤ 1000000000000000000 then (some (B.nackDec a0)) else (none)
def DecI (w : World) (s : ByteArray) (b r o : Nat) (S M : Int) (a : Int) (xs : List Int) (wr : World) : Prop :=
 B.RdIs wr r 146 s a false ∧ wr.heap[b]? = some (.cells #[.int .u32 0, .int .u32 0, .slice none 0 0] 83) ∧
  (∃ v, wr.heap[o]? = some (.cells #[.int .u32 S, .int .u32 M, v] 83) ∧ wr.ownsRow (o + 1) 3 1 v xs.length (nums .i64 xs)) ∧ Below b w wr
def DecJ (w : World) (s : ByteArray) (b r o : Nat) (S M a : Int) (xs : List Int) (f m : Nat) (a' : Act) (w' : World) : Prop :=
 ∃ (i : Nat) (q33 q34 q35 q36 q37 q38 q39 q40 q41 q42 q43 q44 q45 q46 q47 q48 q49 q50 q51 q52 q53 q54 q55 q56 q57 q58 q59 q60 q61 q62 q63 q64 q65 : Value), a' = { tmps := #[.string s, undef, .pointer (some ⟨b, 0, none⟩), .int .i64 0, .pointer (some ⟨r, 0, none⟩), .pointer (some ⟨o, 0, none⟩), .int .i64 (f : Int), .int .u32 (m : Int), .int .i64 (i : Int), undef, .bool false, .string s, .int .i64 (s.size : Int), .bool false, undef, .bool false, .string s, .int .i64 (s.size : Int), .int .i64 ((s.size : Int) % 4), .bool false, undef, .bool false, .string s, .int .i64 (s.size : Int), .bool false, undef, .string s, .pointer (some ⟨r, 0, none⟩), .pointer (some ⟨r, 0, none⟩), .int .u32 S, .pointer (some ⟨r, 0, none⟩), .int .u32 M, .agg #[.int .u32 S, .int .u32 M, .slice none 0 0], q33, q34, q35, q36, q37, q38, q39, q40, q41, q42, q43, q44, q45, q46, q47, q48, q49, q50, q51, q52, q53, q54, q55, q56, q57, q58, q59, q60, q61, q62, q63, q64, q65, undef, undef, undef, undef, undef, undef, undef, undef], defers := [] } ∧ i ≤ 15 ∧ DecI w s b r o S M a (xs ++ B.lostPart f m i) w'
theorem info_int : (Try.prog.info? 3).map (fun i => (i.zero, i.size, i.bytes)) = some (some (.int .i64 0), 1, 8) := by kernel_rfl
theorem dec_step {w w10 : World} {s : ByteArray} {b r o : Nat} {S M A : Int} {Z : List Int} {v v10 : Value} (hbr : b < r) (hro : r < o) (hR : B.RdIs w10 r 146 s A false) (hZ : w10.heap[b]? = some (.cells #[.int .u32 0, .int .u32 0, .slice none 0 0] 83))
  (hO : w10.heap[o]? = some (.cells #[.int .u32 S, .int .u32 M, v] 83)) (HOW : w10.ownsRow (o + 1) 3 1 v10 Z.length (nums .i64 Z)) (hB : Below b w w10) : DecI w s b r o S M A Z (w10.setCell ⟨o, 2, none⟩ v10) := by
 refine ⟨blk_far hR (by show r ≠ o; omega) _, blk_far hZ (by show b ≠ o; omega) _, ⟨v10, ?_, own_setCell HOW (p := ⟨o, 2, none⟩) (fun e => by have := own_base HOW o e.symm; omega) _⟩, hB.setCell (p := ⟨o, 2, none⟩) (by show b ≤ o; omega) _⟩
 refine (blk_set hO 2 v10).trans ?_
 simp
theorem cut_sum (f i : Nat) (hf : f < 65536) (hi : i ≤ 15) : (IntKind.i64.wrap (IntKind.i64.wrap ((f : Int) + (i : Int)) + 1)) % 65536 = (((f + i + 1) % 65536 : Nat) : Int) := by
 rw [IntKind.wrap_i64, IntKind.wrap_i64]; omega
set_option maxHeartbeats 4000000 in
theorem nack_Decode.main (s : ByteArray) (w : World) (h1 : s.size ≤ 65536) (h4 : s.size % 4 = 0) (h12 : 12 ≤ s.size) :
  Calls Try.prog 41 #[.string s] w fun e w' => ∃ v2_ : Value, e = .returned (.tuple #[.agg #[.int .u32 (B.nackDec s).1, .int .u32 (B.nackDec s).2.1, v2_], .int .i64 (B.nackDec s).2.2.2]) ∧ w'.ownsRow w.heap.size 3 1 v2_ (B.nackDec s).2.2.1.length (nums .i64 (B.nackDec s).2.2.1) ∧ Below w.heap.size w w' := by
 have hd1 : decide (65536 < (s.size : Int)) = false := decide_eq_false (by omega)
 have hd2 : ((s.size : Int) % 4 != 0) = false := by simp; omega
 have hd3 : decide ((s.size : Int) < 12) = false := decide_eq_false (by omega)
 go_enter Try.func41, Try.ntmps41
 go_wp2_with fail
 refine (B.read_any _ _).mono ?_
 rintro e w1 ⟨rfl, hw1⟩
 have hsz : (w.alloc (.cells #[.int .u32 0, .int .u32 0, .slice none 0 0] 83)).heap.size = w.heap.size + 1 := by simp
 have hR1 : B.RdIs w1 (w.heap.size + 1) 146 s 0 false := by
  have h := blk_new (w.alloc (.cells #[.int .u32 0, .int .u32 0, .slice none 0 0] 83)) (.cells #[.string s, .int .i64 0, .bool false] 146)
  rw [hsz] at h
  rw [hw1]
  exact h
 have hZ1 : w1.heap[w.heap.size]? = some (.cells #[.int .u32 0, .int .u32 0, .slice none 0 0] 83) := by rw [hw1]; exact blk_alloc (blk_new w _) _
 have hB1 : Below w.heap.size w w1 := by rw [hw1]; exact ((Below.refl _ w).alloc (Nat.le_refl _) _).alloc (by simp) _
 clear hw1 hsz
 go_wp2_with fail
 refine (B.get_good _ _ s 0 32 hR1 (by omega) (by omega) (by omega) (by omega)).mono ?_
 rintro e w2 ⟨rfl, hR2, hG2⟩
 have hZ2 := blk_grown hZ1 hG2 (by simp)
 have hB2 := hB1.grown hG2 hB1.size (by simp)
 clear hR1 hZ1 hB1 hG2
 go_wp2_with fail
 refine (B.get_good _ _ s 32 32 hR2 (by omega) (by omega) (by omega) (by omega)).mono ?_
 rintro e w3 ⟨rfl, hR3, hG3⟩
 have hZ3 := blk_grown hZ2 hG3 (by simp)
 have hB3 := hB2.grown hG3 hB2.size (by simp)
 clear hR2 hZ2 hB2 hG3
 obtain ⟨S, hS⟩ : ∃ S : Int, (B.rdBits s 0 32 : Int) = S := ⟨_, rfl⟩
 obtain ⟨M, hM⟩ : ∃ M : Int, (B.rdBits s 32 32 : Int) = M := ⟨_, rfl⟩
 rw [hS, hM]
 have HS := Aside0.mk hS
 have HM := Aside0.mk hM
 clear hS hM
 go_wp2
 obtain ⟨b, hb⟩ : ∃ b, w.heap.size = b := ⟨_, rfl⟩
 have hbw := Aside0.mk hb
 rw [hb] at hR3 hZ3 hB3 ⊢
 clear hb
 obtain ⟨r, hr⟩ : ∃ r, b + 1 = r := ⟨_, rfl⟩
 rw [hr] at hR3 ⊢
 have hbr : b < r := by omega
 have hrl : r < w3.heap.size := blk_lt hR3
 obtain ⟨o, ho⟩ : ∃ o, w3.heap.size = o := ⟨_, rfl⟩
 have hI0 : DecI w s b r o S M 64 [] (w3.alloc (.cells #[.int .u32 S, .int .u32 M, .slice none 0 0] 83)) := by
  refine ⟨blk_alloc hR3 _, blk_alloc hZ3 _, ⟨.slice none 0 0, by rw [← ho]; exact blk_new _ _, own_nil _ _ _ _⟩, hB3.alloc (by omega) _⟩
 rw [ho] at hrl ⊢
 have HI0 := Aside0.mk hI0
 have HM0 := Aside0.mk hr
 clear hI0 hR3 hZ3 hB3 ho hr
 go_loopw [6] (fun _ wr => ∃ j : Nat, 64 + 32 * j ≤ 8 * s.size ∧ DecI w s b r o S M ((64 + 32 * j : Nat) : Int) (B.lostAll s j) wr) (fun _ wr => (8 * (s.size : Int) - intOf ((wr.cell? ⟨r, 1, none⟩).getD undef)).toNat)
 case atStart => exact ⟨0, by omega, HI0.out⟩
 case round =>
  obtain ⟨j, hj, hR, hZ, ⟨v, hO, HOW⟩, hB⟩ := hrel
  clear HI0
  obtain ⟨A, hA⟩ : ∃ A : Int, ((64 + 32 * j : Nat) : Int) = A := ⟨_, rfl⟩
  have HA := Aside0.mk hA
  rw [hA] at hR
  have hA0 : 0 ≤ A := by omega
  have hA1 : A ≤ 8 * (s.size : Int) := by omega
  clear hA
  by_cases hlt : A < 8 * (s.size : Int)
  ·have hdl : decide (A < 8 * (s.size : Int)) = true := decide_eq_true hlt
   have hA32 : A + 32 ≤ 8 * (s.size : Int) := by have := HA.out; omega
   obtain ⟨X, hX⟩ : ∃ X, B.lostAll s j = X := ⟨_, rfl⟩
   rw [hX] at HOW
   have HX := Aside0.mk hX
   have hXl : X.length ≤ 300000 := by rw [← hX]; have := B.lostAll_length s j; omega
   have HC0 := Aside0.mk (blk_cell hR 1)
   clear hX
   go_wp2_with fail
   refine (B.left_any _ _ s _ hR (by omega) hA0 hA1).mono ?_
   rintro e wl ⟨rfl, hDl⟩
   obtain ⟨nd, rfl⟩ := hDl.out
   have hI : DecI w s b r o S M A X (wr.drewN nd) := ⟨hR, blk_drewN hZ nd, ⟨v, hO, HOW⟩, pw_below_drewN hB nd⟩
   clear hR hZ hO HOW hB hDl
   generalize wr.drewN nd = wl at *
   obtain ⟨hR, hZ, ⟨v, hO, HOW⟩, hB⟩ := hI
   obtain ⟨f, hf⟩ : ∃ f, B.rdBits s A.toNat (16 : Int).toNat = f := ⟨_, rfl⟩
   obtain ⟨m, hm⟩ : ∃ m, B.rdBits s (A + 16).toNat (16 : Int).toNat = m := ⟨_, rfl⟩
   have hf1 : f < 65536 := by rw [← hf]; exact B.rdBits_lt s _ 16
   have hm1 : m < 65536 := by rw [← hm]; exact B.rdBits_lt s _ 16
   have HLA : Aside0 (B.lostAt s j = B.lostPart f m 16) := ⟨by unfold B.lostAt; rw [← hf, ← hm, show (16 : Int).toNat = 16 from rfl, show A.toNat = 64 + 32 * j by have := HA.out; omega, show (A + 16).toNat = 80 + 32 * j by have := HA.out; omega]⟩
   have Hf := Aside0.mk hf
   have Hm := Aside0.mk hm
   have HU := Try.underlying24
   clear hf hm
   have hRo : r < o := hrl
   go_wp2
   refine B.wp_scope_goto 0 (DecJ w s b r o S M (A + 32) X f m) (fun a' _ => (16 - intOf (a'.tmps.getD 8 undef)).toNat) rfl ?_ ?_
   ·clear hR hZ hO HOW hB
    rintro a' w' ⟨i, q33, q34, q35, q36, q37, q38, q39, q40, q41, q42, q43, q44, q45, q46, q47, q48, q49, q50, q51, q52, q53, q54, q55, q56, q57, q58, q59, q60, q61, q62, q63, q64, q65, rfl, hi, hR, hZ, ⟨v1, hO, HOW⟩, hB⟩
    obtain ⟨A1, cc1, rfl⟩ := own_slice HOW
    have hol := blk_lt hO
    have o2 := blk_cell hO 2
    have of2 := blk_frozen hO 2
    simp only [List.getElem?_toArray, List.getElem?_cons_zero, List.getElem?_cons_succ] at o2
    have hXl2 : (X ++ B.lostPart f m i).length ≤ 400000 := by have := B.lostPart_length f m i; rw [List.length_append]; omega
    have HAND := B.and_one_u32 m i (by omega)
    by_cases hbit : m.testBit i = true
    ·rw [hbit] at HAND
     have HB1 := Aside0.mk (B.lostPart_yes f m i hbit)
     clear hbit
     have hand : bits .and .u32 ((m : Int) / 2 ^ i) 1 = 1 := HAND
     clear HAND
     obtain ⟨Y, hY⟩ : ∃ Y, X ++ B.lostPart f m i = Y := ⟨_, rfl⟩
     rw [hY] at HOW o2 hO hXl2
     have HY := Aside0.mk hY
     have HO := Aside0.mk hO
     have HR := Aside0.mk hR
     have HZ := Aside0.mk hZ
     have HBW := Aside0.mk hB
     have HOWA := Aside0.mk HOW
     have HC := Aside0.mk ((wrap_Cut.at16 (IntKind.i64.wrap (IntKind.i64.wrap ((f : Int) + (i : Int)) + 1))).trans (congrArg some (cut_sum f i hf1 hi)))
     obtain ⟨R, hRR⟩ : ∃ R : Int, (((f + i + 1) % 65536 : Nat) : Int) = R := ⟨_, rfl⟩
     rw [hRR] at HC HB1
     clear hRR
     clear hY hO hR hZ hB HOW
     have hcA : ∀ (k : Nat) (x : Obj), ((w'.drewN k).alloc x).cell? ⟨o, 2, none⟩ = some (.slice A1 Y.length cc1) := fun k x => (World.cell?_alloc_lt (w'.drewN k) x ⟨o, 2, none⟩ hol).trans o2
     go_wp2
     go_region_law (first | (go_loud (refine goes_ (N := some 58) Try.func43 rfl rfl #[.int .i64 (IntKind.i64.wrap (IntKind.i64.wrap ((f : Int) + (i : Int)) + 1)), .int .i64 16] rfl rfl rfl ?_ ?_); go_loud (simp only [List.map_toArray, List.map_cons, List.map_nil]); rfl; go_loud (refine (wrap_Cut.calls _ 16 R _ HC.out).mono ?_); rintro e w9 ⟨rfl, ⟨⟨nd9, rfl⟩⟩⟩; refine ⟨_, rfl, ?_⟩) | (go_loud (refine B.step_append_num (w0 := w') (o + 1) rfl (.tmp 53) (.tmp 59) 24 3 .i64 8 rfl HU info_int (by omega) (.slice A1 Y.length cc1) Y R rfl rfl HOWA.out (pw_below_drewN (Below.refl _ _) _) (by show o + 1 ≤ w'.heap.size; omega) (by omega) ?_; intro v10 w10 HOW10 hB10 hG10' hA10; have hG10 : w'.grownBy w10 (Value.slice A1 Y.length cc1).ownBlock := ⟨hG10'.os, hG10'.tape, hG10'.output, hG10'.size, hG10'.block⟩; have HO10 := Aside0.mk (blk_grown HO.out hG10 (fun e => by have := own_base HOWA.out o e.symm; omega)); have k10 := blk_cell HO10.out 2; have f10 := blk_frozen HO10.out 2; simp only [List.getElem?_toArray, List.getElem?_cons_zero, List.getElem?_cons_succ] at k10; have HR10 := Aside0.mk (blk_grown HR.out hG10 (fun e => by have := own_base HOWA.out r e.symm; omega)); have HZ10 := Aside0.mk (blk_grown HZ.out hG10 (fun e => by have := own_base HOWA.out b e.symm; omega)); obtain ⟨A10, n10, rfl⟩ := own_slice HOW10)))
     all_goals
      have hDI : DecI w s b r o S M (A + 32) (X ++ B.lostPart f m (i + 1)) (w10.setCell ⟨o, 2, none⟩ (.slice A10 (Y ++ [R]).length n10)) := by
       rw [HB1.out, ← List.append_assoc, HY.out]
       exact dec_step hbr hRo HR10.out HZ10.out HO10.out HOW10 (HBW.out.grown hG10 (Nat.le_trans (by omega) (Nat.le_of_lt hol)) (fun k hk => by have := own_base HOWA.out k hk; omega))
      simp only [List.length_append, List.length_singleton] at hDI
      have HDI := Aside0.mk hDI
      clear hDI HOW10 HR10 HZ10 HO10 hG10 hG10' hB10
      by_cases hi15 : (i : Int) + 1 < 16
      ·have hdi : decide ((i : Int) + 1 < 16) = true := decide_eq_true hi15
       have hi14 : i + 1 ≤ 15 := by omega
       clear hi15
       go_wp2
       go_step3
       refine ⟨rfl, ⟨i + 1, _, _, _, _, _, _, _, _, _, _, _, _, _, _, _, _, _, _, _, _, _, _, _, _, _, _, _, _, _, _, _, _, _, rfl, by omega, HDI.out⟩, ?_⟩
       simp [intOf]
       omega
      ·have hdi : decide ((i : Int) + 1 < 16) = false := decide_eq_false hi15
       have HI16 : Aside0 (i + 1 = 16) := ⟨by omega⟩
       clear hi15
       go_wp2
       simp only [Exit.jump]
       go_wp2
       go_roundw
       case rel =>
        refine ⟨j + 1, by have := HA.out; omega, ?_⟩
        have hDI := HDI.out
        rw [HI16.out, ← HLA.out, ← HX.out, ← B.lostAll_succ] at hDI
        rw [show ((64 + 32 * (j + 1) : Nat) : Int) = A + 32 by have := HA.out; omega]
        exact hDI
       case measure =>
        have h1 := HDI.out.1
        have h2 := blk_cell h1 1
        simp only [List.getElem?_toArray, List.getElem?_cons_zero, List.getElem?_cons_succ] at h2
        have h3 := HC0.out
        simp only [List.getElem?_toArray, List.getElem?_cons_zero, List.getElem?_cons_succ] at h3
        rw [h2, h3]
        simp [intOf]
        omega
    ·have hbit' : m.testBit i = false := by simpa using hbit
     rw [hbit'] at HAND
     have hand : bits .and .u32 ((m : Int) / 2 ^ i) 1 = 0 := HAND
     have HDI : Aside0 (DecI w s b r o S M (A + 32) (X ++ B.lostPart f m (i + 1)) w') := ⟨by rw [B.lostPart_no f m i hbit']; exact ⟨hR, hZ, ⟨_, hO, HOW⟩, hB⟩⟩
     clear HAND hbit hbit' hR hZ hO HOW hB o2 of2
     by_cases hi15 : (i : Int) + 1 < 16
     ·have hdi : decide ((i : Int) + 1 < 16) = true := decide_eq_true hi15
      have hi14 : i + 1 ≤ 15 := by omega
      clear hi15
      go_wp2
      go_step3
      refine ⟨rfl, ⟨i + 1, _, _, _, _, _, _, _, _, _, _, _, _, _, _, _, _, _, _, _, _, _, _, _, _, _, _, _, _, _, _, _, _, _, rfl, by omega, HDI.out⟩, ?_⟩
      simp [intOf]
      omega
     ·have hdi : decide ((i : Int) + 1 < 16) = false := decide_eq_false hi15
      have HI16 : Aside0 (i + 1 = 16) := ⟨by omega⟩
      clear hi15
      go_wp2
      simp only [Exit.jump]
      go_wp2
      go_roundw
      case rel =>
       refine ⟨j + 1, by have := HA.out; omega, ?_⟩
       have hDI := HDI.out
       rw [HI16.out, ← HLA.out, ← HX.out, ← B.lostAll_succ] at hDI
       rw [show ((64 + 32 * (j + 1) : Nat) : Int) = A + 32 by have := HA.out; omega]
       exact hDI
      case measure =>
       have h1 := HDI.out.1
       have h2 := blk_cell h1 1
       simp only [List.getElem?_toArray, List.getElem?_cons_zero, List.getElem?_cons_succ] at h2
       have h3 := HC0.out
       simp only [List.getElem?_toArray, List.getElem?_cons_zero, List.getElem?_cons_succ] at h3
       rw [h2, h3]
       simp [intOf]
       omega
   ·intro hrest
    go_wp2_with fail
    refine (B.get_int _ _ s A 16 hR (by omega) hA0 (by omega) (by omega) (by omega)).mono ?_
    rintro e w6 ⟨rfl, hR6, hG6⟩
    rw [Hf.out]
    have hZ6 := blk_grown hZ hG6 (by simp; omega)
    have hO6 := blk_grown hO hG6 (by simp; omega)
    have HOW6 : w6.ownsRow (o + 1) 3 1 v X.length (nums .i64 X) := HOW.kept hG6 (.inr fun e => by have := own_base HOW r e; omega)
    have hB6 := hB.grown hG6 (Nat.le_of_lt (Nat.lt_trans hbr (blk_lt hR))) (by simp; omega)
    clear hR hZ hO HOW hB hG6
    go_wp2_with fail
    refine (B.get_int _ _ s (A + 16) 16 hR6 (by omega) (by omega) (by omega) (by omega) (by omega)).mono ?_
    rintro e w7 ⟨rfl, hR7, hG7⟩
    rw [Hm.out]
    have hZ7 := blk_grown hZ6 hG7 (by simp; omega)
    have hO7 := blk_grown hO6 hG7 (by simp; omega)
    have HOW7 : w7.ownsRow (o + 1) 3 1 v X.length (nums .i64 X) := HOW6.kept hG7 (.inr fun e => by have := own_base HOW6 r e; omega)
    have hB7 := hB6.grown hG7 (Nat.le_of_lt (Nat.lt_trans hbr (blk_lt hR6))) (by simp; omega)
    clear hR6 hZ6 hO6 HOW6 hB6 hG7
    have hol := blk_lt hO7
    have o2 := blk_cell hO7 2
    have of2 := blk_frozen hO7 2
    simp only [List.getElem?_toArray, List.getElem?_cons_zero, List.getElem?_cons_succ] at o2
    have HR7 := Aside0.mk hR7
    have HZ7 := Aside0.mk hZ7
    have HO7 := Aside0.mk hO7
    have HB7 := Aside0.mk hB7
    clear hR7 hZ7 hO7 hB7 hdl
    go_wp2_with (at_builtin; refine print_append_num (w0 := w7) (o + 1) rfl (.tmp 42) (.tmp 44) 24 3 .i64 8 rfl HU info_int (by omega) v X (f : Int) rfl rfl HOW7 (Below.refl _ _) (by omega) (by omega) ?_; intro v8 w8 HOW8 hB8 hG8 hA8; obtain ⟨A8, n8, rfl⟩ := own_slice HOW8; have HO8 := Aside0.mk (blk_grown HO7.out hG8 (fun e => by have := own_base HOW7 o e.symm; omega)); have c82 := blk_cell HO8.out 2; have f82 := blk_frozen HO8.out 2; simp only [List.getElem?_toArray, List.getElem?_cons_zero, List.getElem?_cons_succ] at c82)
    go_step3
    rename_i K hK
    refine hK _ _ (hrest.out _ _ ⟨0, _, _, _, _, _, _, _, _, _, _, _, _, _, _, _, _, _, _, _, _, _, _, _, _, _, _, _, _, _, _, _, _, _, rfl, by omega, ?_⟩)
    rw [B.lostPart_zero]
    rw [show X.length + 1 = (X ++ [(f : Int)]).length by simp]
    exact dec_step hbr hRo (by rw [show A + 32 = A + 16 + 16 by omega]; exact blk_grown HR7.out hG8 (fun e => by have := own_base HOW7 r e.symm; omega)) (blk_grown HZ7.out hG8 (fun e => by have := own_base HOW7 b e.symm; omega)) HO8.out HOW8 (HB7.out.grown hG8 (Nat.le_trans (by omega) (Nat.le_of_lt hol)) (fun k hk => by have := own_base HOW7 k hk; omega))
  ·have hdl : decide (A < 8 * (s.size : Int)) = false := decide_eq_false hlt
   have HJ : Aside0 (j = (s.size - 8) / 4) := ⟨by have := HA.out; omega⟩
   obtain ⟨Av, cv, rfl, hcv, hC⟩ := Kd.R_reads (B.R_of_own HOW)
   obtain ⟨X, hX⟩ : ∃ X, B.lostAll s j = X := ⟨_, rfl⟩
   rw [hX] at hO HOW hcv hC
   have HX := Aside0.mk hX
   have hXl : X.length ≤ 300000 := by rw [← hX]; have := B.lostAll_length s j; omega
   clear hX
   go_wp2_with fail
   refine (B.left_any _ _ s _ hR (by omega) hA0 hA1).mono ?_
   rintro e wl ⟨rfl, hDl⟩
   obtain ⟨nd, rfl⟩ := hDl.out
   have hC1 := Kd.C_below hC (Drawn0.below (w := wr) ⟨nd, rfl⟩)
   have hO1 := blk_drewN hO nd
   have hZ1 := blk_drewN hZ nd
   have HOW1 : (wr.drewN nd).ownsRow (o + 1) 3 1 (.slice Av X.length cv) X.length (nums .i64 X) := HOW
   have hB1 : Below b w (wr.drewN nd) := pw_below_drewN hB nd
   generalize wr.drewN nd = wl at *
   have o0 := blk_cell hO1 0
   have o1 := blk_cell hO1 1
   have o2 := blk_cell hO1 2
   have z0 := blk_cell hZ1 0
   have z1 := blk_cell hZ1 1
   have z2 := blk_cell hZ1 2
   have zf0 := blk_frozen hZ1 0
   have zf1 := blk_frozen hZ1 1
   have zf2 := blk_frozen hZ1 2
   simp only [List.getElem?_toArray, List.getElem?_cons_zero, List.getElem?_cons_succ] at o0 o1 o2 z0 z1 z2
   have HC1 := Aside0.mk hC1
   have HO1 := Aside0.mk hO1
   have HZ1 := Aside0.mk hZ1
   have HOWA := Aside0.mk HOW1
   clear hC1 hO1 hZ1 HOW1 hC hO hZ HOW hR hDl hB hlt
   go_wp2_with fail
   refine (nack_fault.calls Av cv X _ _ HC1.out hcv rfl).mono ?_
   rintro e w5 ⟨rfl, hD5⟩
   obtain ⟨nd5, rfl⟩ := hD5.out
   clear hD5
   have hND : B.nackDec s = if 4096 < X.length then (0, 0, [], 2 + 1) else if B.goodB X = true then (S, M, X, 0) else (0, 0, [], 110) := by
    unfold B.nackDec
    rw [if_neg (by omega), if_neg (by omega), if_neg (by omega), ← HJ.out, HX.out, HS.out, HM.out]
    rfl
   have HND := Aside0.mk hND
   clear hND
   by_cases c1 : 4096 < X.length
   ·rw [if_pos c1]
    go_wp2
    refine bodyPost_ret (results_ct rfl _ _ b 83 #[.int .u32 0, .int .u32 0, .slice none 0 0] (0, 0) _ rfl (B.blk_set3 _ _ _ (blk_drewN HZ1.out nd5)) Try.underlying83 rfl (by kernel_rfl)) rfl ?_
    rw [HND.out, if_pos c1]
    exact ⟨_, rfl, own_nil _ _ _ _, by rw [hbw.out]; exact B.below_set3 _ _ _ (pw_below_drewN hB1 nd5)⟩
   ·rw [if_neg c1]
    by_cases c2 : B.goodB X = true
    ·rw [if_pos c2]
     go_wp2
     refine bodyPost_ret (results_ct rfl _ _ b 83 #[.int .u32 S, .int .u32 M, .slice Av X.length cv] (0, 0) _ rfl (B.blk_set3 _ _ _ (blk_drewN HZ1.out nd5)) Try.underlying83 rfl (by kernel_rfl)) rfl ?_
     rw [HND.out, if_neg c1, if_pos c2]
     exact ⟨_, rfl, own_weaken (B.own_set3 _ _ _ HOWA.out (by omega)) (by rw [hbw.out]; omega), by rw [hbw.out]; exact B.below_set3 _ _ _ (pw_below_drewN hB1 nd5)⟩
    ·rw [if_neg c2]
     go_wp2
     refine bodyPost_ret (results_ct rfl _ _ b 83 #[.int .u32 0, .int .u32 0, .slice none 0 0] (0, 0) _ rfl (B.blk_set3 _ _ _ (blk_drewN HZ1.out nd5)) Try.underlying83 rfl (by kernel_rfl)) rfl ?_
     rw [HND.out, if_neg c1, if_neg c2]
     exact ⟨_, rfl, own_nil _ _ _ _, by rw [hbw.out]; exact B.below_set3 _ _ _ (pw_below_drewN hB1 nd5)⟩
theorem nack_Decode.early (s : ByteArray) (w : World) (c : Int) (hc : (65536 < s.size ∧ c = 2) ∨ (s.size ≤ 65536 ∧ s.size % 4 ≠ 0 ∧ c = 90) ∨ (s.size ≤ 65536 ∧ s.size % 4 = 0 ∧ s.size < 12 ∧ c = 60)) (hs : s.size ≤ 1000000000000000000) :
  Calls Try.prog 41 #[.string s] w fun e w' => e = .returned (.tuple #[.agg #[.int .u32 0, .int .u32 0, .slice none 0 0], .int .i64 c]) ∧ Below w.heap.size w w' := by
 rcases hc with ⟨h1, rfl⟩ | ⟨h1, h4, rfl⟩ | ⟨h1, h4, h12, rfl⟩
 ·have hd1 : decide (65536 < (s.size : Int)) = true := decide_eq_true (by omega)
  go_enter Try.func41, Try.ntmps41
  go_wp2
  exact bodyPost_ret (results_ct rfl _ _ w.heap.size 83 #[.int .u32 0, .int .u32 0, .slice none 0 0] (0, 0) _ rfl (blk_new _ _) Try.underlying83 rfl (by kernel_rfl)) rfl ⟨rfl, (Below.refl _ _).alloc (Nat.le_refl _) _⟩
 ·have hd1 : decide (65536 < (s.size : Int)) = false := decide_eq_false (by omega)
  have hd2 : ((s.size : Int) % 4 != 0) = true := by simp; omega
  go_enter Try.func41, Try.ntmps41
  go_wp2
  exact bodyPost_ret (results_ct rfl _ _ w.heap.size 83 #[.int .u32 0, .int .u32 0, .slice none 0 0] (0, 0) _ rfl (blk_new _ _) Try.underlying83 rfl (by kernel_rfl)) rfl ⟨rfl, (Below.refl _ _).alloc (Nat.le_refl _) _⟩
 ·have hd1 : decide (65536 < (s.size : Int)) = false := decide_eq_false (by omega)
  have hd2 : ((s.size : Int) % 4 != 0) = false := by simp; omega
  have hd3 : decide ((s.size : Int) < 12) = true := decide_eq_true (by omega)
  go_enter Try.func41, Try.ntmps41
  go_wp2
  exact bodyPost_ret (results_ct rfl _ _ w.heap.size 83 #[.int .u32 0, .int .u32 0, .slice none 0 0] (0, 0) _ rfl (blk_new _ _) Try.underlying83 rfl (by kernel_rfl)) rfl ⟨rfl, (Below.refl _ _).alloc (Nat.le_refl _) _⟩
theorem nack_Decode.calls (a0 : ByteArray) (r1 : Int) (r2 : Int) (r3 : List Int) (r4 : Int) (w : World) (h : nack_Decode.f a0 = some (r1, r2, r3, r4)) :
  Calls Try.prog 41 #[.string a0] w fun e w' => ∃ v2_ : Value, e = .returned (.tuple #[.agg #[.int .u32 r1, .int .u32 r2, v2_], .int .i64 r4]) ∧ Kd.R (Kd.int .i64) 3 w' w.heap.size (fun _ => True) v2_ r3 ∧ Below w.heap.size w w' := by
 unfold nack_Decode.f at h
 by_cases hs : a0.size ≤ 1000000000000000000
 ·rw [if_pos hs] at h
  have h := Option.some.inj h
  by_cases c1 : 65536 < a0.size
  ·have e : B.nackDec a0 = (0, 0, [], 2) := by unfold B.nackDec; rw [if_pos c1]
   rw [e] at h
   obtain ⟨rfl, rfl, rfl, rfl⟩ : r1 = 0 ∧ r2 = 0 ∧ r3 = [] ∧ r4 = 2 := by simpa [eq_comm] using h
   exact (nack_Decode.early a0 w 2 (.inl ⟨c1, rfl⟩) hs).mono fun _ _ ⟨he, hb⟩ => ⟨_, he, Kd.R_nil _ _ _ _ _, hb⟩
  by_cases c2 : a0.size % 4 ≠ 0
  ·have e : B.nackDec a0 = (0, 0, [], 90) := by unfold B.nackDec; rw [if_neg c1, if_pos c2]
   rw [e] at h
   obtain ⟨rfl, rfl, rfl, rfl⟩ : r1 = 0 ∧ r2 = 0 ∧ r3 = [] ∧ r4 = 90 := by simpa [eq_comm] using h
   exact (nack_Decode.early a0 w 90 (.inr (.inl ⟨by omega, c2, rfl⟩)) hs).mono fun _ _ ⟨he, hb⟩ => ⟨_, he, Kd.R_nil _ _ _ _ _, hb⟩
  by_cases c3 : a0.size < 12
  ·have e : B.nackDec a0 = (0, 0, [], 60) := by unfold B.nackDec; rw [if_neg c1, if_neg c2, if_pos c3]
   rw [e] at h
   obtain ⟨rfl, rfl, rfl, rfl⟩ : r1 = 0 ∧ r2 = 0 ∧ r3 = [] ∧ r4 = 60 := by simpa [eq_comm] using h
   exact (nack_Decode.early a0 w 60 (.inr (.inr ⟨by omega, by omega, c3, rfl⟩)) hs).mono fun _ _ ⟨he, hb⟩ => ⟨_, he, Kd.R_nil _ _ _ _ _, hb⟩
  refine (nack_Decode.main a0 w (by omega) (by omega) (by omega)).mono ?_
  rintro e w' ⟨v2, he, ho, hb⟩
  rw [h] at he ho
  exact ⟨v2, he, B.R_of_own ho, hb⟩
 ·rw [if_neg hs] at h; cases h
end Go.Proofs.Ytgakmnholegbgaa.PFeedReads
end
section
namespace Go.Proofs.Ytgakmnholegbgaa.B
open Go.RowKit Go.Proofs.YtgakmnholegbgaaW.PrintWords Go.Proofs.YtgakmnholegbgaaW.PrintLast Go.Proofs.YtgakmnholegbgaaW.PrintMore
set_option linter.unusedVariables false
set_option linter.unusedSimpArgs false
def NkPost (s : ByteArray) (w : World) (e : Ending) (w' : World) : Prop := ∃ v, e = .returned (.tuple #[.agg #[.int .u32 (nackDec s).1, .int .u32 (nackDec s).2.1, v], .int .i64 (nackDec s).2.2.2]) ∧ RowV w' w.heap.size 3 1 v (nackDec s).2.2.1.length (nums .i64 (nackDec s).2.2.1) ∧ Below w.heap.size w w'
theorem nack_any (s : ByteArray) (w : World) (hs : s.size ≤ 1000000) : Calls Try.prog 41 #[.string s] w (NkPost s w) := by
 have early : ∀ c : Int, ((65536 < s.size ∧ c = 2) ∨ (s.size ≤ 65536 ∧ s.size % 4 ≠ 0 ∧ c = 90) ∨ (s.size ≤ 65536 ∧ s.size % 4 = 0 ∧ s.size < 12 ∧ c = 60)) → nackDec s = (0, 0, [], c) → Calls Try.prog 41 #[.string s] w (NkPost s w) := by
  intro c hc e
  refine (PFeedReads.nack_Decode.early s w c hc (by omega)).mono ?_
  rintro e' w' ⟨rfl, hb⟩
  exact ⟨.slice none 0 0, by rw [e], by rw [e]; exact RowV.nil _ _ _ _, hb⟩
 by_cases c1 : 65536 < s.size
 ·exact early 2 (.inl ⟨c1, rfl⟩) (by unfold nackDec; rw [if_pos c1])
 by_cases c2 : s.size % 4 ≠ 0
 ·exact early 90 (.inr (.inl ⟨by omega, c2, rfl⟩)) (by unfold nackDec; rw [if_neg c1, if_pos c2])
 by_cases c3 : s.size < 12
 ·exact early 60 (.inr (.inr ⟨by omega, by omega, c3, rfl⟩)) (by unfold nackDec; rw [if_neg c1, if_neg c2, if_pos c3])
 refine (PFeedReads.nack_Decode.main s w (by omega) (by omega) (by omega)).mono ?_
 rintro e w' ⟨v2, he, ho, hb⟩
 exact ⟨v2, he, RowV.of_own ho, hb⟩
end Go.Proofs.Ytgakmnholegbgaa.B
end
section
namespace Go.Proofs.Ytgakmnholegbgaa.B
open Go.RowKit Go.Proofs.YtgakmnholegbgaaW.PrintWords Go.Proofs.YtgakmnholegbgaaW.PrintLast Go.Proofs.YtgakmnholegbgaaW.PrintMore
set_option linter.unusedVariables false
set_option linter.unusedSimpArgs false
inductive ToldV (x : P3) (w : World) (base : Nat) (v : Value) (e : Int) : Prop where
 | none_ (h : ¬ (x.2.1 = 205 ∧ (x.1 = 11 ∨ x.1 = 15 ∨ x.1 = 1))) (hv : v = .nilIface) (he : e = 0)
 | one (h : x.1 = 11 ∧ x.2.1 = 205) (vb : Value) (L : List (B3 × Value)) (hv : v = .iface 70 (.agg #[.int .u32 (ccfbP x.2.2).1.1, vb, .int .u32 (ccfbP x.2.2).1.2.2])) (hL : BlocksV w base vb L) (hl : L.map (·.1) = (ccfbP x.2.2).1.2.1) (he : e = (ccfbP x.2.2).2)
 | two (h : x.1 = 15 ∧ x.2.1 = 205) (vS vD : Value) (hv : v = .iface 72 (.agg #[.int .u32 (twccP x.2.2).1.sender, .int .u32 (twccP x.2.2).1.media, .int .i64 (twccP x.2.2).1.first, .int .i64 (twccP x.2.2).1.base, .int .i64 (twccP x.2.2).1.count, vS, vD]))
   (hS : RowV w base 3 1 vS (twccP x.2.2).1.status.length (iV (twccP x.2.2).1.status)) (hD : RowV w base 3 1 vD (twccP x.2.2).1.deltas.length (iV (twccP x.2.2).1.deltas)) (he : e = (twccP x.2.2).2)
 | three (h : x.1 = 1 ∧ x.2.1 = 205) (vl : Value) (hv : v = .iface 75 (.agg #[.int .u32 (nackDec x.2.2).1, .int .u32 (nackDec x.2.2).2.1, vl])) (hl : RowV w base 3 1 vl (nackDec x.2.2).2.2.1.length (nums .i64 (nackDec x.2.2).2.2.1)) (he : e = (nackDec x.2.2).2.2.2)
def DecdPost (x : P3) (w : World) (e : Ending) (w' : World) : Prop := ∃ v n, e = .returned (.tuple #[v, .int .i64 n]) ∧ ToldV x w' w.heap.size v n ∧ Below w.heap.size w w'
set_option maxHeartbeats 4000000 in
theorem decoded_any (x : P3) (w : World) (hs : x.2.2.size ≤ 1000000) : Calls Try.prog 18 #[.agg #[.int .i64 x.1, .int .i64 x.2.1, .string x.2.2]] w (DecdPost x w) := by
 obtain ⟨x1, x2, x3⟩ := x
 dsimp only at hs ⊢
 have hB0 : ∀ o, Below w.heap.size w (w.alloc o) := fun o => (Below.refl _ _).alloc (Nat.le_refl _) o
 have hz0 : ∀ o, w.heap.size ≤ (w.alloc o).heap.size := fun o => (hB0 o).size
 by_cases h2 : x2 = 205
 ·have p2 : (x2 != 205) = false := by rw [h2]; rfl
  by_cases h11 : x1 = 11
  ·have p11 : (x1 == 11) = true := by rw [h11]; rfl
   have HX := Aside0.mk (And.intro h2 h11)
   clear h2 h11
   go_enter Try.func18, Try.ntmps18
   go_wp2_with fail
   refine (ccfb_any x3 _ hs).mono ?_
   rintro e w1 ⟨vb, L, rfl, hL, hl, hB⟩
   obtain ⟨vA, vc, rfl, -⟩ := hL.1.form
   have HL := Aside0.mk (And.intro (hL.low (hz0 _)) (And.intro hl ((hB0 _).trans (hB.mono (hz0 _)))))
   clear hL hl hB
   go_wp2_with fail
   go_ret2
   exact ⟨_, _, rfl, .one ⟨HX.out.2, HX.out.1⟩ _ L rfl (HL.out.1.alloc _) HL.out.2.1 rfl, HL.out.2.2.alloc (HL.out.2.2.size) _⟩
  ·by_cases h15 : x1 = 15
   ·have p11 : (x1 == 11) = false := by rw [h15]; rfl
    have p15 : (x1 == 15) = true := by rw [h15]; rfl
    have HX := Aside0.mk (And.intro h2 h15)
    clear h2 h15 h11
    go_enter Try.func18, Try.ntmps18
    go_wp2_with fail
    refine (twcc_any x3 _ hs).mono ?_
    rintro e w1 ⟨vS, vD, rfl, hS, hD, hB⟩
    obtain ⟨vA, vc, rfl, -⟩ := hS.form
    obtain ⟨vA2, vc2, rfl, -⟩ := hD.form
    have HL := Aside0.mk (And.intro (hS.low (hz0 _)) (And.intro (hD.low (hz0 _)) ((hB0 _).trans (hB.mono (hz0 _)))))
    clear hS hD hB
    go_wp2_with fail
    go_ret2
    exact ⟨_, _, rfl, .two ⟨HX.out.2, HX.out.1⟩ _ _ rfl (HL.out.1.below ((Below.refl _ _).alloc (Nat.le_refl _) _)) (HL.out.2.1.below ((Below.refl _ _).alloc (Nat.le_refl _) _)) rfl, HL.out.2.2.alloc (HL.out.2.2.size) _⟩
   ·by_cases h1 : x1 = 1
    ·have p11 : (x1 == 11) = false := by rw [h1]; rfl
     have p15 : (x1 == 15) = false := by rw [h1]; rfl
     have p1 : (x1 == 1) = true := by rw [h1]; rfl
     have HX := Aside0.mk (And.intro h2 h1)
     clear h2 h15 h11 h1
     go_enter Try.func18, Try.ntmps18
     go_wp2_with fail
     refine (nack_any x3 _ hs).mono ?_
     rintro e w1 ⟨v, rfl, hv, hB⟩
     obtain ⟨vA, vc, rfl, -⟩ := hv.form
     have HL := Aside0.mk (And.intro (hv.low (hz0 _)) ((hB0 _).trans (hB.mono (hz0 _))))
     clear hv hB
     go_wp2_with fail
     go_ret2
     exact ⟨_, _, rfl, .three ⟨HX.out.2, HX.out.1⟩ _ rfl (HL.out.1.below ((Below.refl _ _).alloc (Nat.le_refl _) _)) rfl, HL.out.2.alloc (HL.out.2.size) _⟩
    ·have p11 : (x1 == 11) = false := by simp [h11]
     have p15 : (x1 == 15) = false := by simp [h15]
     have p1 : (x1 == 1) = false := by simp [h1]
     have HX := Aside0.mk (And.intro h11 (And.intro h15 h1))
     clear h2 h15 h11 h1
     go_enter Try.func18, Try.ntmps18
     go_wp2_with fail
     go_ret2
     exact ⟨.nilIface, 0, rfl, .none_ (fun h => h.2.elim (fun h => HX.out.1 h) (fun h => h.elim (fun h => HX.out.2.1 h) (fun h => HX.out.2.2 h))) rfl rfl, hB0 _⟩
 ·have p2 : (x2 != 205) = true := by simp [h2]
  have HX := Aside0.mk h2
  clear h2
  go_enter Try.func18, Try.ntmps18
  go_wp2_with fail
  go_ret2
  exact ⟨.nilIface, 0, rfl, .none_ (fun h => HX.out h.1) rfl rfl, hB0 _⟩
end Go.Proofs.Ytgakmnholegbgaa.B
end
section
namespace Go.Proofs.Ytgakmnholegbgaa.B
open Go.RowKit Go.Proofs.YtgakmnholegbgaaW.PrintWords Go.Proofs.YtgakmnholegbgaaW.PrintLast Go.Proofs.YtgakmnholegbgaaW.PrintMore
set_option linter.unusedVariables false
set_option linter.unusedSimpArgs false
set_option maxHeartbeats 8000000 in
set_option maxRecDepth 100000 in
theorem part_one (s : ByteArray) (w : World) (hs : s.size = 1) : Calls Try.prog 38 #[.string s] w (PartPost s w) := by
 go_enter Try.func38, Try.ntmps38
 go_wp2_with fail
 refine (read_any _ s).mono ?_
 rintro e w1 ⟨rfl, rfl⟩
 have hr0 : RdIs ((w.alloc (.cells #[.int .i64 0, .int .i64 0, .string { data := #[] }] 56)).alloc (.cells #[.string s, .int .i64 0, .bool false] 146)) (w.heap.size + 1) 146 s ((0 : Nat) : Int) false := by
  have h := blk_new (w.alloc (.cells #[.int .i64 0, .int .i64 0, .string { data := #[] }] 56)) (.cells #[.string s, .int .i64 0, .bool false] 146)
  rw [show (w.alloc (.cells #[.int .i64 0, .int .i64 0, .string { data := #[] }] 56)).heap.size = w.heap.size + 1 by simp] at h
  exact h
 have hB0 : Below w.heap.size w ((w.alloc (.cells #[.int .i64 0, .int .i64 0, .string { data := #[] }] 56)).alloc (.cells #[.string s, .int .i64 0, .bool false] 146)) := ((Below.refl _ _).alloc (Nat.le_refl _) _).alloc (by simp) _
 have hRB : ((w.alloc (.cells #[.int .i64 0, .int .i64 0, .string { data := #[] }] 56)).alloc (.cells #[.string s, .int .i64 0, .bool false] 146)).heap[w.heap.size]? = some (.cells #[.int .i64 0, .int .i64 0, .string { data := #[] }] 56 (0, 0)) := (Below.heap_alloc _ _ _ (by simp)).trans (blk_new w _)
 obtain ⟨p, hp⟩ : ∃ p, p = w.heap.size + 1 := ⟨_, rfl⟩
 obtain ⟨rb, hrb⟩ : ∃ p, p = w.heap.size := ⟨_, rfl⟩
 rw [show (w.alloc (.cells #[.int .i64 0, .int .i64 0, .string { data := #[] }] 56)).heap.size = p by simp [hp]]
 rw [← hp] at hr0
 rw [← hrb] at hRB ⊢
 generalize (w.alloc (.cells #[.int .i64 0, .int .i64 0, .string { data := #[] }] 56)).alloc (.cells #[.string s, .int .i64 0, .bool false] 146) = w1 at *
 have hpw : w.heap.size ≤ p := by omega
 have hrp : rb < p := by omega
 have hrw : w.heap.size ≤ rb := by omega
 have R1 := Aside0.mk hr0
 have B1 := Aside0.mk hB0
 have Q1 := Aside0.mk hRB
 clear hp hrb hr0 hB0 hRB
 go_wp2_with fail
 refine (get_good w1 p s 0 2 R1.out (by omega) (by omega) (by omega) (by omega)).mono ?_
 rintro e w2 ⟨rfl, hr, hg⟩
 have R2 : Aside0 (RdIs w2 p 146 s ((2 : Nat) : Int) false) := ⟨by simpa using hr⟩
 have B2 := Aside0.mk (grown_below B1.out hpw hg)
 clear hr hg
 obtain ⟨V1, hV1⟩ : ∃ V, V = rdBits s 0 2 := ⟨_, rfl⟩
 have v1 : V1 < 256 := by have := rdBits_lt s 0 2; rw [← hV1] at this; omega
 rw [← hV1]
 clear hV1
 go_wp2_with fail
 refine (get_good w2 p s 2 1 R2.out (by omega) (by omega) (by omega) (by omega)).mono ?_
 rintro e w3 ⟨rfl, hr, hg⟩
 have R3 : Aside0 (RdIs w3 p 146 s ((3 : Nat) : Int) false) := ⟨by simpa using hr⟩
 have B3 := Aside0.mk (grown_below B2.out hpw hg)
 clear hr hg
 obtain ⟨V2, hV2⟩ : ∃ V, V = rdBits s 2 1 := ⟨_, rfl⟩
 have v2 : V2 < 256 := by have := rdBits_lt s 2 1; rw [← hV2] at this; omega
 rw [← hV2]
 clear hV2
 go_wp2_with fail
 refine (get_good w3 p s 3 5 R3.out (by omega) (by omega) (by omega) (by omega)).mono ?_
 rintro e w4 ⟨rfl, hr, hg⟩
 have R4 : Aside0 (RdIs w4 p 146 s ((8 : Nat) : Int) false) := ⟨by simpa using hr⟩
 have B4 := Aside0.mk (grown_below B3.out hpw hg)
 clear hr hg
 obtain ⟨V3, hV3⟩ : ∃ V, V = rdBits s 3 5 := ⟨_, rfl⟩
 have v3 : V3 < 256 := by have := rdBits_lt s 3 5; rw [← hV3] at this; omega
 rw [← hV3]
 clear hV3
 go_wp2_with fail
 refine (get_over w4 p s ((8 : Nat) : Int) 8 R4.out (by omega) (by omega) (by omega)).mono ?_
 rintro e w5 ⟨rfl, hr, hg⟩
 have R5 := Aside0.mk hr
 have B5 := Aside0.mk (grown_below B4.out hpw hg)
 clear hr hg
 go_wp2_with fail
 have R6 : Aside0 (RdIs (w5.alloc (.cells #[.int .i64 (V3 : Int), .int .i64 0, .string { data := #[] }] 56)) p 146 s _ _) := ⟨(Below.heap_alloc w5 _ p (blk_lt R5.out)).trans R5.out⟩
 have B6 := Aside0.mk (B5.out.alloc (o := .cells #[.int .i64 (V3 : Int), .int .i64 0, .string { data := #[] }] 56) B5.out.size)
 generalize w5.alloc (.cells #[.int .i64 (V3 : Int), .int .i64 0, .string { data := #[] }] 56) = w6 at *
 refine (get_was w6 p s _ 16 R6.out).mono ?_
 rintro e w7 ⟨rfl, hr, hg⟩
 have R7 := Aside0.mk hr
 have B7 := Aside0.mk (grown_below B6.out hpw hg)
 clear hr hg
 go_wp2_with fail
 refine (bad_any w7 p s _ true R7.out).mono ?_
 rintro e w8 ⟨rfl, hw8⟩
 obtain rfl := hw8.symm
 have HE := Aside0.mk (show partErr s = 60 by unfold partErr; rw [if_pos (by omega)])
 go_wp2_with fail
 refine (want_no 60 _).mono ?_
 rintro e w8 ⟨rfl, hw8⟩
 obtain rfl := hw8.symm
 go_wp2_with fail
 exact ⟨rfl, PartPost.bad HE.out (by decide) B7.out⟩
set_option maxHeartbeats 8000000 in
set_option maxRecDepth 100000 in
theorem part_few (s : ByteArray) (w : World) (hs : 2 ≤ s.size) (hs2 : s.size < 4) : Calls Try.prog 38 #[.string s] w (PartPost s w) := by
 go_enter Try.func38, Try.ntmps38
 go_wp2_with fail
 refine (read_any _ s).mono ?_
 rintro e w1 ⟨rfl, rfl⟩
 have hr0 : RdIs ((w.alloc (.cells #[.int .i64 0, .int .i64 0, .string { data := #[] }] 56)).alloc (.cells #[.string s, .int .i64 0, .bool false] 146)) (w.heap.size + 1) 146 s ((0 : Nat) : Int) false := by
  have h := blk_new (w.alloc (.cells #[.int .i64 0, .int .i64 0, .string { data := #[] }] 56)) (.cells #[.string s, .int .i64 0, .bool false] 146)
  rw [show (w.alloc (.cells #[.int .i64 0, .int .i64 0, .string { data := #[] }] 56)).heap.size = w.heap.size + 1 by simp] at h
  exact h
 have hB0 : Below w.heap.size w ((w.alloc (.cells #[.int .i64 0, .int .i64 0, .string { data := #[] }] 56)).alloc (.cells #[.string s, .int .i64 0, .bool false] 146)) := ((Below.refl _ _).alloc (Nat.le_refl _) _).alloc (by simp) _
 have hRB : ((w.alloc (.cells #[.int .i64 0, .int .i64 0, .string { data := #[] }] 56)).alloc (.cells #[.string s, .int .i64 0, .bool false] 146)).heap[w.heap.size]? = some (.cells #[.int .i64 0, .int .i64 0, .string { data := #[] }] 56 (0, 0)) := (Below.heap_alloc _ _ _ (by simp)).trans (blk_new w _)
 obtain ⟨p, hp⟩ : ∃ p, p = w.heap.size + 1 := ⟨_, rfl⟩
 obtain ⟨rb, hrb⟩ : ∃ p, p = w.heap.size := ⟨_, rfl⟩
 rw [show (w.alloc (.cells #[.int .i64 0, .int .i64 0, .string { data := #[] }] 56)).heap.size = p by simp [hp]]
 rw [← hp] at hr0
 rw [← hrb] at hRB ⊢
 generalize (w.alloc (.cells #[.int .i64 0, .int .i64 0, .string { data := #[] }] 56)).alloc (.cells #[.string s, .int .i64 0, .bool false] 146) = w1 at *
 have hpw : w.heap.size ≤ p := by omega
 have hrp : rb < p := by omega
 have hrw : w.heap.size ≤ rb := by omega
 have R1 := Aside0.mk hr0
 have B1 := Aside0.mk hB0
 have Q1 := Aside0.mk hRB
 clear hp hrb hr0 hB0 hRB
 go_wp2_with fail
 refine (get_good w1 p s 0 2 R1.out (by omega) (by omega) (by omega) (by omega)).mono ?_
 rintro e w2 ⟨rfl, hr, hg⟩
 have R2 : Aside0 (RdIs w2 p 146 s ((2 : Nat) : Int) false) := ⟨by simpa using hr⟩
 have B2 := Aside0.mk (grown_below B1.out hpw hg)
 clear hr hg
 obtain ⟨V1, hV1⟩ : ∃ V, V = rdBits s 0 2 := ⟨_, rfl⟩
 have v1 : V1 < 256 := by have := rdBits_lt s 0 2; rw [← hV1] at this; omega
 rw [← hV1]
 clear hV1
 go_wp2_with fail
 refine (get_good w2 p s 2 1 R2.out (by omega) (by omega) (by omega) (by omega)).mono ?_
 rintro e w3 ⟨rfl, hr, hg⟩
 have R3 : Aside0 (RdIs w3 p 146 s ((3 : Nat) : Int) false) := ⟨by simpa using hr⟩
 have B3 := Aside0.mk (grown_below B2.out hpw hg)
 clear hr hg
 obtain ⟨V2, hV2⟩ : ∃ V, V = rdBits s 2 1 := ⟨_, rfl⟩
 have v2 : V2 < 256 := by have := rdBits_lt s 2 1; rw [← hV2] at this; omega
 rw [← hV2]
 clear hV2
 go_wp2_with fail
 refine (get_good w3 p s 3 5 R3.out (by omega) (by omega) (by omega) (by omega)).mono ?_
 rintro e w4 ⟨rfl, hr, hg⟩
 have R4 : Aside0 (RdIs w4 p 146 s ((8 : Nat) : Int) false) := ⟨by simpa using hr⟩
 have B4 := Aside0.mk (grown_below B3.out hpw hg)
 clear hr hg
 obtain ⟨V3, hV3⟩ : ∃ V, V = rdBits s 3 5 := ⟨_, rfl⟩
 have v3 : V3 < 256 := by have := rdBits_lt s 3 5; rw [← hV3] at this; omega
 rw [← hV3]
 clear hV3
 go_wp2_with fail
 refine (get_good w4 p s 8 8 R4.out (by omega) (by omega) (by omega) (by omega)).mono ?_
 rintro e w5 ⟨rfl, hr, hg⟩
 have R5 : Aside0 (RdIs w5 p 146 s ((16 : Nat) : Int) false) := ⟨by simpa using hr⟩
 have B5 := Aside0.mk (grown_below B4.out hpw hg)
 clear hr hg
 obtain ⟨V4, hV4⟩ : ∃ V, V = rdBits s 8 8 := ⟨_, rfl⟩
 have v4 : V4 < 256 := by have := rdBits_lt s 8 8; rw [← hV4] at this; omega
 rw [← hV4]
 clear hV4
 go_wp2_with fail
 have R6 : Aside0 (RdIs (w5.alloc (.cells #[.int .i64 (V3 : Int), .int .i64 (V4 : Int), .string { data := #[] }] 56)) p 146 s _ _) := ⟨(Below.heap_alloc w5 _ p (blk_lt R5.out)).trans R5.out⟩
 have B6 := Aside0.mk (B5.out.alloc (o := .cells #[.int .i64 (V3 : Int), .int .i64 (V4 : Int), .string { data := #[] }] 56) B5.out.size)
 generalize w5.alloc (.cells #[.int .i64 (V3 : Int), .int .i64 (V4 : Int), .string { data := #[] }] 56) = w6 at *
 refine (get_over w6 p s _ 16 R6.out (by omega) (by omega) (by omega)).mono ?_
 rintro e w7 ⟨rfl, hr, hg⟩
 have R7 := Aside0.mk hr
 have B7 := Aside0.mk (grown_below B6.out hpw hg)
 clear hr hg
 go_wp2_with fail
 refine (bad_any w7 p s _ true R7.out).mono ?_
 rintro e w8 ⟨rfl, hw8⟩
 obtain rfl := hw8.symm
 have HE := Aside0.mk (show partErr s = 60 by unfold partErr; rw [if_pos (by omega)])
 go_wp2_with fail
 refine (want_no 60 _).mono ?_
 rintro e w8 ⟨rfl, hw8⟩
 obtain rfl := hw8.symm
 go_wp2_with fail
 exact ⟨rfl, PartPost.bad HE.out (by decide) B7.out⟩
theorem part_any (s : ByteArray) (w : World) (h0 : 0 < s.size) (h1 : s.size ≤ 1000000) : Calls Try.prog 38 #[.string s] w (PartPost s w) := by
 by_cases h : 4 ≤ s.size
 ·exact part_long s w h h1
 ·by_cases h2 : s.size = 1
  ·exact part_one s w h2
  ·exact part_few s w (by omega) (by omega)
end Go.Proofs.Ytgakmnholegbgaa.B
end
section
namespace Go.Proofs.Ytgakmnholegbgaa.B
open Go.RowKit Go.Proofs.YtgakmnholegbgaaW.PrintWords Go.Proofs.YtgakmnholegbgaaW.PrintLast Go.Proofs.YtgakmnholegbgaaW.PrintMore
set_option linter.unusedVariables false
set_option linter.unusedSimpArgs false
def SplitPost (s : ByteArray) (w : World) (e : Ending) (w' : World) : Prop := ∃ v, e = .returned (.tuple #[v, .int .i64 (splitP s).2]) ∧ RowV w' w.heap.size 56 3 v (splitP s).1.length (partV (splitP s).1) ∧ Below w.heap.size w w'
def splitD (g1 g2 : Nat) : Deferred := { target := .fn (.func 36) #[.pointer (some ⟨g1, 0, none⟩), .pointer (some ⟨g2, 0, none⟩)], args := #[] }
theorem split_load (g1 g2 : Nat) (tm : Array Value) (w : World) (v x : Value) (t1 : tm[2]?.getD undef = .pointer (some ⟨g1, 0, none⟩)) (t2 : tm[3]?.getD undef = .pointer (some ⟨g2, 0, none⟩)) (c1 : w.cell? ⟨g1, 0, none⟩ = some v) (c2 : w.cell? ⟨g2, 0, none⟩ = some x) :
  (results Try.f17 tm).run Try.prog w = .ok (.tuple #[v, x]) w := by
 simp [results, Try.results17, go_sem, t1, t2, c1, c2]
theorem split_fault (s : ByteArray) (w0 w : World) (g1 g2 : Nat) (e : Int) (v x : Value) (tm : Array Value) (h1 : w0.heap.size ≤ g1) (h2 : w0.heap.size ≤ g2) (hne : ¬ g1 = g2) (ha : w.heap[g1]? = some (.cells #[v] 36 (0, 0))) (hb : w.heap[g2]? = some (.cells #[x] 27 (0, 0))) (hw : Below w0.heap.size w0 w)
  (t1 : tm[2]?.getD undef = .pointer (some ⟨g1, 0, none⟩)) (t2 : tm[3]?.getD undef = .pointer (some ⟨g2, 0, none⟩)) (hs : splitP s = ([], e)) :
  Leaves Try.prog Try.f17 tm (SplitPost s w0) [splitD g1 g2] (.panicking [faultV e]) w := by
 have ca := blk_cell ha 0
 have cb := blk_cell hb 0
 have fa := blk_frozen ha 0
 have fb := blk_frozen hb 0
 simp only [List.getElem?_toArray, List.getElem?_cons_zero, List.getElem?_cons_succ] at ca cb
 refine leaves_cons (f := 36) (args := #[.pointer (some ⟨g1, 0, none⟩), .pointer (some ⟨g2, 0, none⟩)]) (by simp) (by simp [go_sem]) ?_
 refine (catch_fault g1 g2 e w _ _ hne ca cb fa fb).mono ?_
 rintro r u' w'' ⟨rfl, rfl, rfl⟩
 have hl1 := World.block_lt_of_cell? w _ ca
 have hl2 := World.block_lt_of_cell? w _ cb
 dsimp only at hl1 hl2
 have hB : Below w0.heap.size w0 ((((w.setCell ⟨g1, 0, none⟩ (.slice none 0 0)).setCell ⟨g2, 0, none⟩ (.int .i64 e)).alloc (.cells #[.int .i64 e] 99)).drew) :=
  (((hw.setCell (p := ⟨g1, 0, none⟩) h1 _).setCell (p := ⟨g2, 0, none⟩) h2 _).alloc (by have := hw.size; simpa [World.setCell] using this) _).drew
 have q1 : ((((w.setCell ⟨g1, 0, none⟩ (.slice none 0 0)).setCell ⟨g2, 0, none⟩ (.int .i64 e)).alloc (.cells #[.int .i64 e] 99)).drew).cell? ⟨g1, 0, none⟩ = some (.slice none 0 0) := by
  simp [go_sem, hl1, ca, hne]
 have q2 : ((((w.setCell ⟨g1, 0, none⟩ (.slice none 0 0)).setCell ⟨g2, 0, none⟩ (.int .i64 e)).alloc (.cells #[.int .i64 e] 99)).drew).cell? ⟨g2, 0, none⟩ = some (.int .i64 e) := by
  simp [go_sem, hl2, cb]
 exact ⟨_, split_load g1 g2 tm _ _ _ t1 t2 q1 q2, _, by rw [hs], by rw [hs]; exact RowV.nil _ _ _ _, hB⟩
theorem split_good (s : ByteArray) (w0 w : World) (g1 g2 : Nat) (l : List P3) (v : Value) (tm : Array Value) (ha : w.heap[g1]? = some (.cells #[v] 36 (0, 0))) (hb : w.heap[g2]? = some (.cells #[.int .i64 0] 27 (0, 0))) (hw : Below w0.heap.size w0 w) (hr : RowV w w0.heap.size 56 3 v l.length (partV l))
  (t1 : tm[2]?.getD undef = .pointer (some ⟨g1, 0, none⟩)) (t2 : tm[3]?.getD undef = .pointer (some ⟨g2, 0, none⟩)) (hs : splitP s = (l, 0)) :
  Leaves Try.prog Try.f17 tm (SplitPost s w0) [splitD g1 g2] .returning w := by
 have ca := blk_cell ha 0
 have cb := blk_cell hb 0
 simp only [List.getElem?_toArray, List.getElem?_cons_zero, List.getElem?_cons_succ] at ca cb
 refine leaves_cons (f := 36) (args := #[.pointer (some ⟨g1, 0, none⟩), .pointer (some ⟨g2, 0, none⟩)]) (by simp) (by simp [go_sem]) ?_
 refine (catch_idle ⟨g1, 0, none⟩ ⟨g2, 0, none⟩ w).mono ?_
 rintro r u' w'' ⟨rfl, rfl, rfl⟩
 exact ⟨_, split_load g1 g2 tm _ _ _ t1 t2 ca cb, v, by rw [hs], by rw [hs]; exact hr, hw⟩
set_option maxHeartbeats 4000000 in
theorem split_long (s : ByteArray) (w : World) (h : 65536 < s.size) (h2 : s.size ≤ 1000000) : Calls Try.prog 17 #[.string s] w (SplitPost s w) := by
 have hmf : ∀ (fn : Fn) (first cap : Array Value) (w : World), (Instr.makeFunc fn first cap).run Try.prog w = .ok (.func fn first cap) w := fun _ _ _ _ => rfl
 have d1 : decide ((s.size : Int) ≤ 65536) = false := decide_eq_false (by omega)
 go_enter_defers Try.func17, Try.ntmps17
 go_wp2_with fail
 refine wp_scope_goto 0 (fun _ _ => False) (fun _ _ => 0) rfl ?_ ?_
 ·rintro a w hh
  exact hh.elim
 ·intro hrest
  clear hrest
  go_wp2_with fail
  refine (want_no 2 _).mono ?_
  rintro e w8 ⟨rfl, hw8⟩
  obtain rfl := hw8.symm
  go_wp2_with fail
  (try simp only [Exit.jump])
  refine split_fault s w _ w.heap.size (w.heap.size + 1) 2 (.slice none 0 0) (.int .i64 0) _ (Nat.le_refl _) (by omega) (by omega) ?_ ?_ (((Below.refl _ _).alloc (Nat.le_refl _) _).alloc (by simp) _) rfl rfl (splitP_long h)
  ·exact (Below.heap_alloc _ _ _ (by simp)).trans (blk_new w _)
  ·have h := blk_new (w.alloc (.cells #[.slice none 0 0] 36)) (.cells #[.int .i64 0] 27)
   simpa using h
theorem str_empty_ (s : ByteArray) : s.toList.isEmpty = decide (s.size = 0) := by
 rw [ByteArray.toList_eq, Bool.eq_iff_iff]
 simp only [List.isEmpty_iff, decide_eq_true_eq]
 exact ⟨fun h => (by have := congrArg List.length h; simpa using this), fun h => List.eq_nil_of_length_eq_zero (by simpa using h)⟩
theorem size_emptyS {s : ByteArray} (h : s.size = 0) : s = ({ data := #[] } : ByteArray) := by
 obtain ⟨d⟩ := s
 have : d = #[] := Array.eq_empty_of_size_eq_zero h
 rw [this]
set_option maxHeartbeats 4000000 in
theorem split_none (w : World) : Calls Try.prog 17 #[.string { data := #[] }] w (SplitPost { data := #[] } w) := by
 have hmf : ∀ (fn : Fn) (first cap : Array Value) (w : World), (Instr.makeFunc fn first cap).run Try.prog w = .ok (.func fn first cap) w := fun _ _ _ _ => rfl
 go_enter_defers Try.func17, Try.ntmps17
 go_wp2_with fail
 refine wp_scope_goto 0 (fun _ _ => False) (fun _ _ => 0) rfl ?_ ?_
 ·rintro a w hh
  exact hh.elim
 ·intro hrest
  clear hrest
  go_wp2_with fail
  refine (want_yes 2 _).mono ?_
  rintro e w8 ⟨rfl, hw8⟩
  obtain rfl := hw8.symm
  go_wp2_with fail
  refine (want_no 60 _).mono ?_
  rintro e w8 ⟨rfl, hw8⟩
  obtain rfl := hw8.symm
  go_wp2_with fail
  (try simp only [Exit.jump])
  refine split_fault _ w _ w.heap.size (w.heap.size + 1) 60 (.slice none 0 0) (.int .i64 0) _ (Nat.le_refl _) (by omega) (by omega) ?_ ?_ (((Below.refl _ _).alloc (Nat.le_refl _) _).alloc (by simp) _) rfl rfl (splitP_none rfl)
  ·exact (Below.heap_alloc _ _ _ (by simp)).trans (blk_new w _)
  ·have h := blk_new (w.alloc (.cells #[.slice none 0 0] 36)) (.cells #[.int .i64 0] 27)
   simpa using h
def splitF (g1 g2 : Nat) (r : ByteArray) (q : Nat → Value) : Act := { tmps := #[.string r, q 1, .pointer (some ⟨g1, 0, none⟩), .pointer (some ⟨g2, 0, none⟩), q 4, q 5, q 6, q 7, q 8, q 9, q 10, q 11, q 12, q 13, q 14, q 15, q 16, q 17, q 18, q 19, q 20, q 21, q 22, q 23, q 24, q 25, q 26, q 27, q 28], defers := [splitD g1 g2] }
def SplitJ (s : ByteArray) (w0 : World) (g1 g2 : Nat) (a : Act) (w : World) : Prop := ∃ (r : ByteArray) (l : List P3) (v : Value) (q : Nat → Value), a = splitF g1 g2 r q ∧ Aside0 (0 < r.size ∧ r.size + 4 * l.length ≤ 65536) ∧ Aside0 (w.heap[g1]? = some (.cells #[v] 36 (0, 0))) ∧ Aside0 (w.heap[g2]? = some (.cells #[.int .i64 0] 27 (0, 0))) ∧ Aside0 (Below w0.heap.size w0 w) ∧ Aside0 (RowV w w0.heap.size 56 3 v l.length (partV l)) ∧ Aside0 (Behind s l r)
def splitM (a : Act) : Nat := match a.tmps[0]? with
 | some (Value.string r) => r.size
 | _ => 0
theorem SplitJ.mk {s : ByteArray} {w0 : World} {g1 g2 : Nat} {a : Act} {w : World} (r : ByteArray) (l : List P3) (v : Value) (h : a = splitF g1 g2 r (fun i => a.tmps.getD i undef)) (h1 : 0 < r.size ∧ r.size + 4 * l.length ≤ 65536) (h2 : w.heap[g1]? = some (.cells #[v] 36 (0, 0))) (h3 : w.heap[g2]? = some (.cells #[.int .i64 0] 27 (0, 0)))
  (h4 : Below w0.heap.size w0 w) (h5 : RowV w w0.heap.size 56 3 v l.length (partV l)) (h6 : Behind s l r) : SplitJ s w0 g1 g2 a w := ⟨r, l, v, _, h, ⟨h1⟩, ⟨h2⟩, ⟨h3⟩, ⟨h4⟩, ⟨h5⟩, ⟨h6⟩⟩
set_option maxHeartbeats 4000000 in
set_option maxRecDepth 100000 in
theorem split_some (s : ByteArray) (w : World) (h0 : ¬ s.size = 0) (h1 : s.size ≤ 65536) : Calls Try.prog 17 #[.string s] w (SplitPost s w) := by
 have hmf : ∀ (fn : Fn) (first cap : Array Value) (w : World), (Instr.makeFunc fn first cap).run Try.prog w = .ok (.func fn first cap) w := fun _ _ _ _ => rfl
 have d1 : decide ((s.size : Int) ≤ 65536) = true := decide_eq_true (by omega)
 have d2 : s.toList.isEmpty = false := by rw [str_empty_]; exact decide_eq_false h0
 go_enter_defers Try.func17, Try.ntmps17
 go_wp2_with fail
 refine wp_scope_goto 0 (SplitJ s w w.heap.size (w.heap.size + 1)) (fun a _ => splitM a) rfl ?_ ?_
 ·rintro a w1 ⟨r, l, v, q, rfl, ⟨hr0, hr1⟩, hg1, hg2, hB, hR, hH⟩
  obtain ⟨g1, hgg1⟩ : ∃ g, g = w.heap.size := ⟨_, rfl⟩
  obtain ⟨g2, hgg2⟩ : ∃ g, g = w.heap.size + 1 := ⟨_, rfl⟩
  rw [← hgg2, ← hgg1]
  have HG := Aside0.mk (And.intro hgg1 hgg2)
  rw [← hgg2] at hg2
  rw [← hgg1] at hg1
  clear hgg1 hgg2
  unfold splitF splitD
  go_wp2_with fail
  refine (part_any r w1 hr0 (by omega)).mono ?_
  rintro e w2 ⟨⟨hE, rfl⟩ | ⟨hE, rfl⟩, hB2⟩
  ·have k1 := (hB2.block _ (blk_lt hg1.out)).trans hg1.out
   have c1 := blk_cell k1 0
   simp only [List.getElem?_toArray, List.getElem?_cons_zero, List.getElem?_cons_succ] at c1
   have f1 := blk_frozen k1 0
   have HB2 := Aside0.mk (hB.out.trans (hB2.mono hB.out.size))
   have HR2 := Aside0.mk (hR.out.below hB2)
   have K2 := Aside0.mk ((hB2.block _ (blk_lt hg2.out)).trans hg2.out)
   have K1 := Aside0.mk k1
   have HE := Aside0.mk hE
   obtain ⟨hp1, hp2⟩ := partErr_size hE
   have hp4 := partSize_ge r
   obtain ⟨A, c, rfl, hnc, hcm⟩ := hR.out.form
   obtain ⟨n, hn⟩ : ∃ n, n = l.length := ⟨_, rfl⟩
   obtain ⟨P, hP⟩ : ∃ P, P = partSize r := ⟨_, rfl⟩
   obtain ⟨T, hT⟩ : ∃ T, T = r.extract P r.size := ⟨_, rfl⟩
   have hTs : T.size = r.size - P := by rw [hT]; simp
   obtain ⟨X, hX⟩ : ∃ X, X = byteN r 0 % 32 := ⟨_, rfl⟩
   obtain ⟨Y, hY⟩ : ∃ Y, Y = byteN r 1 := ⟨_, rfl⟩
   obtain ⟨Z, hZ⟩ : ∃ Z, Z = partBody r := ⟨_, rfl⟩
   rw [← hn] at hr1 hnc c1 HR2 K1
   rw [← hP] at hp1 hp4
   rw [← hX, ← hY, ← hZ, ← hP]
   have HP := Aside0.mk hP
   have HT := Aside0.mk hT
   have HN := Aside0.mk hn
   have HXYZ := Aside0.mk (And.intro hX (And.intro hY hZ))
   have i1 : (P : Int) ≤ (r.size : Int) := by omega
   have i0 : (0 : Int) ≤ (P : Int) := by omega
   have hl1 := blk_lt k1
   clear hP hT hn hX hY hZ hE hB2 hB hR hg1 hg2 k1 hp2
   have HR3 := Aside0.mk ((HR2.out.alloc (.cells #[.int .i64 (X : Int), .int .i64 (Y : Int), .string Z] 56)).alloc (.cells #[.int .i64 (X : Int), .int .i64 (Y : Int), .string Z] 56))
   have HB3 := Aside0.mk ((HB2.out.alloc (o := .cells #[.int .i64 (X : Int), .int .i64 (Y : Int), .string Z] 56) HB2.out.size).alloc (o := .cells #[.int .i64 (X : Int), .int .i64 (Y : Int), .string Z] 56) (by have := HB2.out.size; simp; omega))
   have K13 := Aside0.mk ((Below.heap_alloc _ (.cells #[.int .i64 (X : Int), .int .i64 (Y : Int), .string Z] 56) _ (blk_lt ((Below.heap_alloc w2 (.cells #[.int .i64 (X : Int), .int .i64 (Y : Int), .string Z] 56) g1 hl1).trans K1.out))).trans ((Below.heap_alloc w2 (.cells #[.int .i64 (X : Int), .int .i64 (Y : Int), .string Z] 56) g1 hl1).trans K1.out))
   have hl2 := blk_lt K2.out
   have K23 := Aside0.mk ((Below.heap_alloc _ (.cells #[.int .i64 (X : Int), .int .i64 (Y : Int), .string Z] 56) _ (blk_lt ((Below.heap_alloc w2 (.cells #[.int .i64 (X : Int), .int .i64 (Y : Int), .string Z] 56) g2 hl2).trans K2.out))).trans ((Below.heap_alloc w2 (.cells #[.int .i64 (X : Int), .int .i64 (Y : Int), .string Z] 56) g2 hl2).trans K2.out))
   have HNX : Aside0 (∀ j u, ([.int .i64 (X : Int), .int .i64 (Y : Int), .string Z] : List Value)[j]? = some u → ((w2.alloc (.cells #[.int .i64 (X : Int), .int .i64 (Y : Int), .string Z] 56)).alloc (.cells #[.int .i64 (X : Int), .int .i64 (Y : Int), .string Z] 56)).cell? ((⟨w2.heap.size + 1, 0, none⟩ : Addr).add j) = some u) := ⟨by
    have h := new_news (w2.alloc (.cells #[.int .i64 (X : Int), .int .i64 (Y : Int), .string Z] 56)) [.int .i64 (X : Int), .int .i64 (Y : Int), .string Z] 56
    simpa using h⟩
   have HBX : Aside0 (w.heap.size ≤ ((w2.alloc (.cells #[.int .i64 (X : Int), .int .i64 (Y : Int), .string Z] 56)).alloc (.cells #[.int .i64 (X : Int), .int .i64 (Y : Int), .string Z] 56)).heap.size) := ⟨HB3.out.size⟩
   clear hl2
   have hgn : ¬ g1 = g2 := by have := HG.out; omega
   have hgn' : ¬ g2 = g1 := fun e => hgn e.symm
   have hem : (r.extract P r.size).toList.isEmpty = decide (r.size ≤ P) := by
    rw [str_empty_]
    congr 1
    rw [ByteArray.size_extract]
    exact propext (by omega)
   by_cases hz : r.size ≤ P
   ·have hem2 : (r.extract P r.size).toList.isEmpty = true := by rw [hem]; exact decide_eq_true hz
    clear hem
    go_wp2_with (at_builtin; go_loud (refine row_append (w := (w2.alloc (.cells #[.int .i64 (X : Int), .int .i64 (Y : Int), .string Z] 56)).alloc (.cells #[.int .i64 (X : Int), .int .i64 (Y : Int), .string Z] 56)) rfl (.tmp 19) (.tmp 21) 36 rfl 56 Try.t56 (.agg #[.int .i64 0, .int .i64 0, .string { data := #[] }]) 3 32 Try.underlying36 (by kernel_rfl) rfl rfl rfl (by decide) (by decide) w.heap.size (.slice A n c) n (partV l) (by rfl) HR3.out ⟨w2.heap.size + 1, 0, none⟩ 1 1 [.int .i64 (X : Int), .int .i64 (Y : Int), .string Z] (by rfl) rfl HNX.out (by simp [Value.oneCell']) (by simp only [maxLen]; omega) (by omega) HBX.out ?_); intro v1 w6 hR6 hG6 hO6 hF6; obtain ⟨g6, o6, c6, rfl, hb6, hn6, hc6, hx6⟩ := hR6.some_ (by omega); have k16 := blk_grown K13.out hG6 (fun e => HR3.out.ne K13.out (by decide) e.symm); have k26 := blk_grown K23.out hG6 (fun e => HR3.out.ne K23.out (by decide) e.symm); have HB6 := Aside0.mk (below_new HB3.out hG6 (fun k hk => (HR3.out.lt hk).2.1)); have HR6 := Aside0.mk hR6; have u1 := blk_cell k16 0; have u1f := blk_frozen k16 0; have u2 := blk_cell k26 0; have u2f := blk_frozen k26 0; simp only [List.getElem?_toArray, List.getElem?_cons_zero, List.getElem?_cons_succ] at u1 u2; have q61 := blk_lt k16; have q62 := blk_lt k26; have HK16 := Aside0.mk k16; have HK26 := Aside0.mk k26; clear hx6 hR6 hG6 hO6 hF6 c1 f1 k16 k26)
    (try simp only [Exit.jump])
    have z1 := blk_set (blk_set HK16.out 0 (.slice (some ⟨g6, o6, none⟩) (n + 1) c6)) 0 (.slice (some ⟨g6, o6, none⟩) (n + 1) c6)
    have Z1 := (Below.heap_setCell _ (⟨g2, 0, none⟩ : Addr) (.int .i64 0) g1 hgn).trans z1
    have z2 := (Below.heap_setCell _ (⟨g1, 0, none⟩ : Addr) (.slice (some ⟨g6, o6, none⟩) (n + 1) c6) g2 hgn').trans ((Below.heap_setCell w6 (⟨g1, 0, none⟩ : Addr) (.slice (some ⟨g6, o6, none⟩) (n + 1) c6) g2 hgn').trans HK26.out)
    have Z2 := blk_set z2 0 (.int .i64 0)
    have hN : n + 1 = (l ++ [partOf r]).length := by rw [List.length_append, HN.out]; rfl
    have hV : partV l ++ [Value.int IntKind.i64 (X : Int), Value.int IntKind.i64 (Y : Int), Value.string Z] = partV (l ++ [partOf r]) := by
     rw [partV_snoc, HXYZ.out.1, HXYZ.out.2.1, HXYZ.out.2.2]
     rfl
    have hR := HR6.out
    rw [hV] at hR
    have e1 := hR.ne HK16.out (by decide)
    have e2 := hR.ne HK26.out (by decide)
    refine split_good s w _ g1 g2 (l ++ [partOf r]) (.slice (some ⟨g6, o6, none⟩) (n + 1) c6) _ ?_ ?_ ?_ ?_ rfl rfl ?_
    ·refine Z1.trans ?_
     simp
    ·refine Z2.trans ?_
     simp
    ·exact ((HB6.out.setCell (p := ⟨g1, 0, none⟩) (show w.heap.size ≤ g1 by have := HG.out; omega) _).setCell (p := ⟨g1, 0, none⟩) (show w.heap.size ≤ g1 by have := HG.out; omega) _).setCell (p := ⟨g2, 0, none⟩) (show w.heap.size ≤ g2 by have := HG.out; omega) _
    ·rw [← hN]
     exact ((hR.setCell (p := ⟨g1, 0, none⟩) _ e1).setCell (p := ⟨g1, 0, none⟩) _ e1).setCell (p := ⟨g2, 0, none⟩) _ e2
    ·refine splitP_ok (by omega) (by omega) ((hH.out.next (by omega) HE.out).done ?_)
     rw [restOf_size, ← HP.out]
     omega
   ·have hem2 : (r.extract P r.size).toList.isEmpty = false := by rw [hem]; exact decide_eq_false hz
    clear hem
    go_wp2_with (at_builtin; go_loud (refine row_append (w := (w2.alloc (.cells #[.int .i64 (X : Int), .int .i64 (Y : Int), .string Z] 56)).alloc (.cells #[.int .i64 (X : Int), .int .i64 (Y : Int), .string Z] 56)) rfl (.tmp 19) (.tmp 21) 36 rfl 56 Try.t56 (.agg #[.int .i64 0, .int .i64 0, .string { data := #[] }]) 3 32 Try.underlying36 (by kernel_rfl) rfl rfl rfl (by decide) (by decide) w.heap.size (.slice A n c) n (partV l) (by rfl) HR3.out ⟨w2.heap.size + 1, 0, none⟩ 1 1 [.int .i64 (X : Int), .int .i64 (Y : Int), .string Z] (by rfl) rfl HNX.out (by simp [Value.oneCell']) (by simp only [maxLen]; omega) (by omega) HBX.out ?_); intro v1 w6 hR6 hG6 hO6 hF6; obtain ⟨g6, o6, c6, rfl, hb6, hn6, hc6, hx6⟩ := hR6.some_ (by omega); have k16 := blk_grown K13.out hG6 (fun e => HR3.out.ne K13.out (by decide) e.symm); have k26 := blk_grown K23.out hG6 (fun e => HR3.out.ne K23.out (by decide) e.symm); have HB6 := Aside0.mk (below_new HB3.out hG6 (fun k hk => (HR3.out.lt hk).2.1)); have HR6 := Aside0.mk hR6; have u1 := blk_cell k16 0; have u1f := blk_frozen k16 0; have u2 := blk_cell k26 0; have u2f := blk_frozen k26 0; simp only [List.getElem?_toArray, List.getElem?_cons_zero, List.getElem?_cons_succ] at u1 u2; have q61 := blk_lt k16; have q62 := blk_lt k26; have HK16 := Aside0.mk k16; have HK26 := Aside0.mk k26; clear hx6 hR6 hG6 hO6 hF6 c1 f1 k16 k26)
    go_step3
    have z1 := blk_set HK16.out 0 (.slice (some ⟨g6, o6, none⟩) (n + 1) c6)
    have z2 := (Below.heap_setCell w6 (⟨g1, 0, none⟩ : Addr) (.slice (some ⟨g6, o6, none⟩) (n + 1) c6) g2 hgn').trans HK26.out
    have hN : n + 1 = (l ++ [partOf r]).length := by rw [List.length_append, HN.out]; rfl
    have hV : partV l ++ [Value.int IntKind.i64 (X : Int), Value.int IntKind.i64 (Y : Int), Value.string Z] = partV (l ++ [partOf r]) := by
     rw [partV_snoc, HXYZ.out.1, HXYZ.out.2.1, HXYZ.out.2.2]
     rfl
    have hR := HR6.out
    rw [hV] at hR
    have e1 := hR.ne HK16.out (by decide)
    have hz1 : (r.extract P r.size).size = r.size - P := by rw [ByteArray.size_extract]; omega
    show (0 : Nat) = 0 ∧ _ ∧ _
    refine ⟨rfl, SplitJ.mk (r.extract P r.size) (l ++ [partOf r]) (.slice (some ⟨g6, o6, none⟩) (n + 1) c6) rfl ⟨?_, ?_⟩ ?_ z2 ?_ ?_ ?_, ?_⟩
    ·omega
    ·omega
    ·refine z1.trans ?_
     simp
    ·exact HB6.out.setCell (p := ⟨g1, 0, none⟩) (show w.heap.size ≤ g1 by have := HG.out; omega) _
    ·rw [← hN]
     exact hR.setCell (p := ⟨g1, 0, none⟩) _ e1
    ·have h := hH.out.next (by omega) HE.out
     rw [restOf, ← HP.out] at h
     exact h
    ·show (r.extract P r.size).size < r.size
     omega
  ·go_wp2_with fail
   (try simp only [Exit.jump])
   refine split_fault s w _ g1 g2 _ v (.int .i64 0) _ ?_ ?_ ?_ ((hB2.block _ (blk_lt hg1.out)).trans hg1.out) ((hB2.block _ (blk_lt hg2.out)).trans hg2.out) (hB.out.trans (hB2.mono hB.out.size)) rfl rfl (splitP_bad (by omega) (by omega) (hH.out.bad (by omega) hE))
   all_goals (have := HG.out; omega)
 ·intro hrest
  go_wp2_with fail
  refine (want_yes 2 _).mono ?_
  rintro e w8 ⟨rfl, hw8⟩
  obtain rfl := hw8.symm
  go_wp2_with fail
  refine (want_yes 60 _).mono ?_
  rintro e w8 ⟨rfl, hw8⟩
  obtain rfl := hw8.symm
  dsimp only
  rename_i K hK
  refine hK _ _ ?_
  refine wpList_nil ?_
  rename_i K2 hK2
  refine hK2 _ _ ?_
  go_wp2_with fail
  go_step3
  rename_i K3 hK3
  refine hK3 _ _ (hrest.out _ _ (SplitJ.mk s [] (.slice none 0 0) rfl ⟨by omega, by simp; omega⟩ ?_ ?_ (((Below.refl _ _).alloc (Nat.le_refl _) _).alloc (by simp) _) (RowV.nil _ _ _ _) (Behind.start s)))
  ·exact (Below.heap_alloc _ _ _ (by simp)).trans (blk_new w _)
  ·have h := blk_new (w.alloc (.cells #[.slice none 0 0] 36)) (.cells #[.int .i64 0] 27)
   simpa using h
theorem split_any (s : ByteArray) (w : World) (h : s.size ≤ 1000000) : Calls Try.prog 17 #[.string s] w (SplitPost s w) := by
 by_cases h1 : 65536 < s.size
 ·exact split_long s w h1 h
 ·by_cases h2 : s.size = 0
  ·rw [size_emptyS h2]
   exact split_none w
  ·exact split_some s w h2 (by omega)
end Go.Proofs.Ytgakmnholegbgaa.B
end
section
namespace Go.Proofs.Ytgakmnholegbgaa.B
open Go.RowKit Go.Proofs.YtgakmnholegbgaaW.PrintWords Go.Proofs.YtgakmnholegbgaaW.PrintLast Go.Proofs.YtgakmnholegbgaaW.PrintMore
set_option linter.unusedVariables false
set_option linter.unusedSimpArgs false
theorem yes_t1 (w : World) (v : Value) : (Instr.typeAssert (.iface 70 v) 67 70 true).run Try.prog w = .ok (.tuple #[v, .bool true]) w := by kernel_rfl
theorem nil_t1 (w : World) : (Instr.typeAssert .nilIface 67 70 true).run Try.prog w = .ok (.tuple #[.agg #[.int .u32 0, .slice none 0 0, .int .u32 0], .bool false]) w := by kernel_rfl
theorem no_t12 (w : World) (v : Value) : (Instr.typeAssert (.iface 72 v) 67 70 true).run Try.prog w = .ok (.tuple #[.agg #[.int .u32 0, .slice none 0 0, .int .u32 0], .bool false]) w := by kernel_rfl
theorem no_t13 (w : World) (v : Value) : (Instr.typeAssert (.iface 75 v) 67 70 true).run Try.prog w = .ok (.tuple #[.agg #[.int .u32 0, .slice none 0 0, .int .u32 0], .bool false]) w := by kernel_rfl
theorem yes_t2 (w : World) (v : Value) : (Instr.typeAssert (.iface 72 v) 67 72 true).run Try.prog w = .ok (.tuple #[v, .bool true]) w := by kernel_rfl
theorem nil_t2 (w : World) : (Instr.typeAssert .nilIface 67 72 true).run Try.prog w = .ok (.tuple #[.agg #[.int .u32 0, .int .u32 0, .int .i64 0, .int .i64 0, .int .i64 0, .slice none 0 0, .slice none 0 0], .bool false]) w := by kernel_rfl
theorem no_t23 (w : World) (v : Value) : (Instr.typeAssert (.iface 75 v) 67 72 true).run Try.prog w = .ok (.tuple #[.agg #[.int .u32 0, .int .u32 0, .int .i64 0, .int .i64 0, .int .i64 0, .slice none 0 0, .slice none 0 0], .bool false]) w := by kernel_rfl
theorem yes_t3 (w : World) (v : Value) : (Instr.typeAssert (.iface 75 v) 67 75 true).run Try.prog w = .ok (.tuple #[v, .bool true]) w := by kernel_rfl
theorem nil_t3 (w : World) : (Instr.typeAssert .nilIface 67 75 true).run Try.prog w = .ok (.tuple #[.agg #[.int .u32 0, .int .u32 0, .slice none 0 0], .bool false]) w := by kernel_rfl
theorem flat_get {α : Type} (f : α → List Value) (m : Nat) (hf : ∀ x, (f x).length = m) : ∀ (l : List α) (i j : Nat) (x : α), l[i]? = some x → j < m → (l.flatMap f)[i * m + j]? = (f x)[j]?
 | [], i, j, x, h, _ => by simp at h
 | y :: l, 0, j, x, h, hj => by
  simp only [List.getElem?_cons_zero, Option.some.injEq] at h
  subst h
  rw [List.flatMap_cons, Nat.zero_mul, Nat.zero_add, List.getElem?_append_left (by rw [hf]; exact hj)]
 | y :: l, i + 1, j, x, h, hj => by
  rw [List.getElem?_cons_succ] at h
  rw [List.flatMap_cons, List.getElem?_append_right (by rw [hf, Nat.add_mul]; omega), hf, show (i + 1) * m + j - m = i * m + j by rw [Nat.add_mul]; omega]
  exact flat_get f m hf l i j x h hj
theorem pV_get {l : List P3} {i : Nat} {x : P3} (h : l[i]? = some x) : (partV l)[i * 3]? = some (.int .i64 x.1) ∧ (partV l)[i * 3 + 1]? = some (.int .i64 x.2.1) ∧ (partV l)[i * 3 + 2]? = some (.string x.2.2) := by
 have k := fun j (hj : j < 3) => flat_get (fun x : P3 => [.int .i64 x.1, .int .i64 x.2.1, .string x.2.2]) 3 (fun _ => rfl) l i j x h hj
 exact ⟨k 0 (by omega), k 1 (by omega), k 2 (by omega)⟩
theorem RowV.other {w w' : World} {base base2 : Nat} {e e2 : TypeId} {sz sz2 : Nat} {v v2 : Value} {n n2 : Nat} {xs xs2 : List Value} (h : RowV w base e sz v n xs) (h2 : RowV w base2 e2 sz2 v2 n2 xs2) (g : w.grownBy w' v2.ownBlock) (hne : e ≠ e2) : RowV w' base e sz v n xs :=
 h.keep (fun k hk _ hs => g.block k (h.lt hk).1 (fun e' => by
  have := (h2.lt e'.symm).2.2
  rw [hs] at this
  injection this with this
  exact hne this))
def FeedPost (s : ByteArray) (near : Int) (w : World) (e : Ending) (w' : World) : Prop := ∃ vR vA, e = .returned (.tuple #[.agg #[vR, vA], .int .i64 (feedP s near).2]) ∧ RowV w' w.heap.size 58 5 vR (feedP s near).1.1.length (repV (feedP s near).1.1) ∧ RowV w' w.heap.size 3 1 vA (feedP s near).1.2.length (iV (feedP s near).1.2) ∧ Below w.heap.size w w'
theorem fb_load (g4 : Nat) (tm : Array Value) (w : World) (u0 u1 x : Value) (t4 : tm[4]?.getD undef = .pointer (some ⟨g4, 0, none⟩)) (t5 : tm[5]?.getD undef = x) (h : w.heap[g4]? = some (.cells #[u0, u1] 26 (0, 0))) :
  (results Try.f8 tm).run Try.prog w = .ok (.tuple #[.agg #[u0, u1], x]) w := by
 have c0 := blk_cell h 0
 have c1 := blk_cell h 1
 simp only [List.getElem?_toArray, List.getElem?_cons_zero, List.getElem?_cons_succ] at c0 c1
 simp [results, Try.results8, go_sem, t4, t5, c0, c1]
theorem fset {w : World} {g4 : Nat} {x0 x1 : Value} (h : w.heap[g4]? = some (.cells #[x0, x1] 26 (0, 0))) (y0 y1 : Value) : ((w.setCell ⟨g4, 0, none⟩ y0).setCell ⟨g4, 1, none⟩ y1).heap[g4]? = some (.cells #[y0, y1] 26 (0, 0)) := blk_set (blk_set h 0 y0) 1 y1
theorem FeedPost.bad {s : ByteArray} {near e : Int} {w w' : World} (h : feedP s near = (([], []), e)) (hB : Below w.heap.size w w') : FeedPost s near w (.returned (.tuple #[.agg #[.slice none 0 0, .slice none 0 0], .int .i64 e])) w' :=
 ⟨.slice none 0 0, .slice none 0 0, by rw [h], by rw [h]; exact RowV.nil _ _ _ _, by rw [h]; exact RowV.nil _ _ _ _, hB⟩
def RRel (w : World) (nf : Int) (l : List P3) (PA : Option Addr) (pc g4 g8 : Nat) (v9 v31 : Value) (wr : World) : Prop := ∃ (i : Nat) (vR vA : Value) (a : Fd), v31 = .int .i64 i ∧ v9 = .int .i64 ((a.2.2 : Nat) : Int) ∧ i ≤ l.length ∧ a.1.length ≤ 65536 * i ∧ a.2.1.length ≤ 65536 * i ∧ a.2.2 ≤ i ∧ Aside0 (FdAt nf l i a) ∧
 Aside0 (wr.heap[g4]? = some (.cells #[.slice none 0 0, .slice none 0 0] 26 (0, 0))) ∧ Aside0 (wr.heap[g8]? = some (.cells #[vR, vA] 26 (0, 0))) ∧ Aside0 (RowV wr w.heap.size 58 5 vR a.1.length (repV a.1)) ∧ Aside0 (RowV wr w.heap.size 3 1 vA a.2.1.length (iV a.2.1)) ∧ Aside0 (RowV wr w.heap.size 56 3 (.slice PA l.length pc) l.length (partV l)) ∧ Aside0 (Below w.heap.size w wr)
set_option maxHeartbeats 16000000 in
set_option maxRecDepth 100000 in
theorem read_any_ (s : ByteArray) (near : Int) (w : World) (hs : s.size ≤ 1000000) (hn : I64 near) (hsz : ∀ x ∈ (splitP s).1, x.2.2.size ≤ 1000000) (hpl : (splitP s).1.length ≤ 65536) : Calls Try.prog 8 #[.string s, .int .i64 near] w (FeedPost s near w) := by
 obtain ⟨nf, hnf⟩ : ∃ n, n = nearF near := ⟨_, rfl⟩
 have hnI : I64 nf := by rw [hnf]; unfold nearF I64; omega
 obtain ⟨⟨l, E⟩, hSP⟩ : ∃ p, p = splitP s := ⟨_, rfl⟩
 rw [← hSP] at hsz hpl
 dsimp only at hsz hpl
 have HSZ := Aside0.mk hsz
 have HSP := Aside0.mk hSP
 have HNF := Aside0.mk hnf
 have CS := Aside0.mk (fun w => split_any s w hs)
 clear hsz hSP
 go_enter Try.func8, Try.ntmps8
 go_wp2_with fail
 rw [show min (max near 0) 1125899906842624 = nf from hnf.symm]
 clear hnf
 have K4 := Aside0.mk (blk_new w (.cells #[.slice none 0 0, .slice none 0 0] 26))
 have HB := Aside0.mk ((Below.refl w.heap.size w).alloc (Nat.le_refl _) (.cells #[.slice none 0 0, .slice none 0 0] 26))
 obtain ⟨g4, hg4⟩ : ∃ g, g = w.heap.size := ⟨_, rfl⟩
 rw [← hg4] at K4 ⊢
 have hwg4 : w.heap.size ≤ g4 := Nat.le_of_eq hg4.symm
 clear hg4
 refine (CS.out _).mono ?_
 rintro e w2 ⟨vP, rfl, hP, hB2⟩
 have hsl := HB.out.size
 rw [← HSP.out] at hP ⊢
 dsimp only at hP ⊢
 have HP := Aside0.mk (hP.low hsl)
 replace K4 := Aside0.mk ((hB2.block g4 (blk_lt K4.out)).trans K4.out)
 replace HB := Aside0.mk (HB.out.trans (hB2.mono hsl))
 clear hP hB2 hsl CS
 obtain ⟨PA, pc, rfl, -, -⟩ := HP.out.form
 have c0 := blk_cell K4.out 0
 have c1 := blk_cell K4.out 1
 simp only [List.getElem?_toArray, List.getElem?_cons_zero, List.getElem?_cons_succ] at c0 c1
 have f0 := blk_frozen K4.out 0
 have f1 := blk_frozen K4.out 1
 by_cases z : E = 0
 ·have q1 : (E != 0) = false := by simp [z]
  have hE : (splitP s).2 = 0 := by rw [← HSP.out]; exact z
  have HE := Aside0.mk hE
  have HSL : Aside0 ((splitP s).1 = l) := ⟨by rw [← HSP.out]⟩
  clear hE z
  go_wp2_with fail
  clear c0 c1 f0 f1
  have hw2s := HB.out.size
  have h4l := blk_lt K4.out
  have n48 : g4 ≠ w2.heap.size := by omega
  have K8 := Aside0.mk (blk_new w2 (.cells #[.slice none 0 0, .slice none 0 0] 26))
  replace K4 := Aside0.mk (gb_blk (World.grownBy_alloc w2 (.cells #[.slice none 0 0, .slice none 0 0] 26) none) K4.out (fun k hk => by cases hk))
  replace HP := Aside0.mk (HP.out.alloc (.cells #[.slice none 0 0, .slice none 0 0] 26))
  replace HB := Aside0.mk (HB.out.alloc HB.out.size (.cells #[.slice none 0 0, .slice none 0 0] 26))
  obtain ⟨g8, hg8⟩ : ∃ g, g = w2.heap.size := ⟨_, rfl⟩
  rw [← hg8] at K8 n48 hw2s ⊢
  have hwg8 : w.heap.size ≤ g8 := by omega
  clear h4l hw2s
  clear hg8
  generalize w2.alloc (.cells #[.slice none 0 0, .slice none 0 0] 26) = w3 at *
  have HAt0 := Aside0.mk (FdAt.start nf l)
  go_loopw [9, 11, 12, 13, 14, 15, 16, 31] (fun v9 _ _ _ _ _ _ v31 wr => RRel w nf l PA pc g4 g8 v9 v31 wr) (fun _ _ _ _ _ _ _ v _ => l.length - (intOf v).toNat)
  case atStart => exact ⟨0, .slice none 0 0, .slice none 0 0, fdNil, rfl, rfl, by omega, by simp [fdNil], by simp [fdNil], by simp [fdNil], HAt0, K4, K8, ⟨RowV.nil _ _ _ _⟩, ⟨RowV.nil _ _ _ _⟩, HP, HB⟩
  case round =>
   clear K4 K8 HP HB HAt0
   obtain ⟨i, vR, vA, a, rfl, rfl, hi, hl1, hl2, hk, HAt, K4, K8, HR, HA, HP, HB⟩ := hrel
   by_cases hlt : i < l.length
   ·have q4 : decide ((i : Int) < (l.length : Int)) = true := decide_eq_true (by omega)
    obtain ⟨⟨x1, x2, x3⟩, hx⟩ : ∃ x, l[i]? = some x := ⟨l[i]'hlt, List.getElem?_eq_getElem hlt⟩
    obtain ⟨pa, po, pc', e_, _, _, _, hxa⟩ := HP.out.some_ (by omega)
    injection e_ with e_ _ e2_
    subst e_
    subst e2_
    have hsx := HSZ.out _ (List.mem_of_getElem? hx)
    obtain ⟨u0, u1, u2⟩ := pV_get hx
    dsimp only at hsx u0 u1 u2
    replace u0 := hxa _ _ u0
    replace u1 := hxa _ _ u1
    replace u2 := hxa _ _ u2
    rw [← Nat.add_assoc] at u1 u2
    have i0 : (0 : Int) ≤ (i : Int) := by omega
    have i1 : (i : Int) < (l.length : Int) := by omega
    have HXI := Aside0.mk hx
    have CDD := Aside0.mk (fun w => decoded_any (x1, x2, x3) w hsx)
    dsimp only at CDD
    clear hx hxa
    go_wp2_with fail
    refine (CDD.out _).mono ?_
    rintro e w4 ⟨v, n, rfl, hT, hB4⟩
    have hz : wr.heap.size ≤ (wr.alloc (.cells #[.int .i64 x1, .int .i64 x2, .string x3] 56)).heap.size := by simp
    have B0 := Aside0.mk (((Below.refl wr.heap.size wr).alloc (Nat.le_refl _) (.cells #[.int .i64 x1, .int .i64 x2, .string x3] 56)).trans (hB4.mono hz))
    have hbw : w.heap.size ≤ (wr.alloc (.cells #[.int .i64 x1, .int .i64 x2, .string x3] 56)).heap.size := Nat.le_trans HB.out.size hz
    replace K4 := Aside0.mk ((B0.out.block g4 (blk_lt K4.out)).trans K4.out)
    replace K8 := Aside0.mk ((B0.out.block g8 (blk_lt K8.out)).trans K8.out)
    replace HR := Aside0.mk (HR.out.below B0.out)
    replace HA := Aside0.mk (HA.out.below B0.out)
    replace HP := Aside0.mk (HP.out.below B0.out)
    replace HB := Aside0.mk (HB.out.trans (B0.out.mono HB.out.size))
    clear u0 u1 u2 B0 hz hB4 CDD hsx
    generalize wr.alloc (.cells #[.int .i64 x1, .int .i64 x2, .string x3] 56) = wq at *
    cases hT with
    | none_ h hv he =>
     subst hv he
     have HAn := Aside0.mk (HAt.out.next HXI.out (fd_none h))
     clear h
     have n1 := nil_t1
     have n2 := nil_t2
     have n3 := nil_t3
     go_wp2_with fail
     clear n1 n2 n3
     rw [Fd.add_nil] at HAn
     exact ⟨⟨i + 1, vR, vA, a, by simp, rfl, by omega, by omega, by omega, by omega, HAn, K4, K8, HR, HA, HP, HB⟩, by simp [intOf]; omega⟩
    | one h vb L hv hL hl he =>
     obtain ⟨⟨⟨S, Bs, st⟩, E2⟩, hC⟩ : ∃ c, c = ccfbP x3 := ⟨_, rfl⟩
     dsimp only at hv hl he h
     rw [← hC] at hv hl he
     dsimp only at hv hl he
     subst hv he hl
     replace hL := hL.low hbw
     obtain ⟨BA, bc, rfl, -, -⟩ := hL.1.form
     by_cases hz : n = 0
     ·have HC := Aside0.mk hC
      have HH := Aside0.mk h
      have hE : (ccfbP x3).2 = 0 := by rw [← hC]; exact hz
      obtain ⟨f1, f2, f3⟩ := ccfb_facts hE
      rw [← hC] at f1 f2 f3
      dsimp only at f1 f2 f3
      rw [List.length_map] at f1
      have hoB : fdOne nf (x1, x2, x3) = .ok (repsB (fromP st nf) (L.map (·.1)), [], 1) := by
       rw [fd_one1 h hE, ← hC]
      have hlo := fdOne_le hoB
      dsimp only at hlo
      have HAn := Aside0.mk (HAt.out.next HXI.out hoB)
      have HF2 : Aside0 (∀ x ∈ L, (0 ≤ x.1.2.1 ∧ x.1.2.1 ≤ 65535) ∧ x.1.2.2.length ≤ 4096 ∧ ∀ m ∈ x.1.2.2, 0 ≤ m.2.2 ∧ m.2.2 ≤ 8191) := ⟨fun x hx => f2 x.1 (List.mem_map_of_mem hx)⟩
      have q5 : (n != 0) = false := by simp [hz]
      have HL := Aside0.mk hL
      have HZ := Aside0.mk hz
      clear hC h hE hoB f2 hL hz
      have n1 := yes_t1
      go_wp2_with fail
      clear n1
      replace K4 := Aside0.mk (gb_blk (World.grownBy_alloc w4 (.cells #[.int .u32 S, .slice BA L.length bc, .int .u32 st] 70) none) K4.out (fun k hk => by cases hk))
      replace K8 := Aside0.mk (gb_blk (World.grownBy_alloc w4 (.cells #[.int .u32 S, .slice BA L.length bc, .int .u32 st] 70) none) K8.out (fun k hk => by cases hk))
      replace HR := Aside0.mk (HR.out.alloc (.cells #[.int .u32 S, .slice BA L.length bc, .int .u32 st] 70))
      replace HA := Aside0.mk (HA.out.alloc (.cells #[.int .u32 S, .slice BA L.length bc, .int .u32 st] 70))
      replace HP := Aside0.mk (HP.out.alloc (.cells #[.int .u32 S, .slice BA L.length bc, .int .u32 st] 70))
      replace HL := Aside0.mk (HL.out.alloc (.cells #[.int .u32 S, .slice BA L.length bc, .int .u32 st] 70))
      replace HB := Aside0.mk (HB.out.alloc HB.out.size (.cells #[.int .u32 S, .slice BA L.length bc, .int .u32 st] 70))
      generalize w4.alloc (.cells #[.int .u32 S, .slice BA L.length bc, .int .u32 st] 70) = wv at *
      refine (first_any _ g8 w.heap.size vR vA _ a.1 S st nf L K8.out hwg8 HR.out HL.out f3 hnI (by omega) HF2.out (by omega)).mono ?_
      rintro e w6 ⟨rfl, vR2, K8n, HRn, HBn, HFr⟩
      obtain ⟨b', hb⟩ : ∃ b' : Fd, b' = (repsB (fromP st nf) (L.map (·.1)), [], 1) := ⟨_, rfl⟩
      rw [← hb] at HAn
      obtain ⟨a', ha⟩ : ∃ a', a' = a.add b' := ⟨_, rfl⟩
      rw [← ha] at HAn
      have e1 : a'.1 = a.1 ++ (repsB (fromP st nf) (L.map (·.1))) := by rw [ha, hb]; rfl
      have e2 : a'.2.1 = a.2.1 := by rw [ha, hb]; simp [Fd.add]
      have e3 : a'.2.2 = a.2.2 + 1 := by rw [ha, hb]; rfl
      have e4 : a'.1.length = a.1.length + b'.1.length := by rw [ha]; simp [Fd.add]
      have e5 : b'.1.length ≤ 65536 := by rw [hb]; exact hlo
      replace K4 := Aside0.mk (HFr.blk K4.out (by decide) n48)
      replace HA := Aside0.mk (HFr.row HA.out (by decide) (HA.out.ne K8.out (by decide)))
      replace HP := Aside0.mk (HFr.row HP.out (by decide) (HP.out.ne K8.out (by decide)))
      replace HB := Aside0.mk (HB.out.trans HBn)
      replace HR := Aside0.mk HRn
      replace K8 := Aside0.mk K8n
      have E1 := Aside0.mk e1
      have E2_ := Aside0.mk e2
      have E3 := Aside0.mk e3
      clear e1 e2 e3 ha hb HFr HRn HBn K8n
      go_wp2_with fail
      exact ⟨⟨i + 1, vR2, vA, a', by simp, by rw [E3.out]; simp, by omega, by omega, by rw [E2_.out]; omega, by rw [E3.out]; omega, HAn, K4, K8, ⟨by rw [E1.out]; exact HR.out⟩, ⟨by rw [E2_.out]; exact HA.out⟩, HP, HB⟩, by simp [intOf]; omega⟩
     ·have hE : (ccfbP x3).2 ≠ 0 := by rw [← hC]; exact hz
      have HFP : Aside0 (feedP s near = (([], []), n)) := ⟨feedP_bad HE.out (by rw [HSL.out, ← HNF.out]; exact HAt.out.bad HXI.out (by rw [fd_bad1 h hE, ← hC]))⟩
      have q5 : (n != 0) = true := by simp [hz]
      clear hC h hE hz hL
      have c0 := blk_cell K4.out 0
      have c1 := blk_cell K4.out 1
      simp only [List.getElem?_toArray, List.getElem?_cons_zero, List.getElem?_cons_succ] at c0 c1
      have f0 := blk_frozen K4.out 0
      have f1 := blk_frozen K4.out 1
      go_wp2_with fail
      (try simp only [Exit.inBlock, Exit.then])
      refine bodyPost_ret (fb_load g4 _ _ _ _ _ rfl rfl (fset K4.out (.slice none 0 0) (.slice none 0 0))) rfl ?_
      exact FeedPost.bad HFP.out ((HB.out.setCell (p := ⟨g4, 0, none⟩) hwg4 _).setCell (p := ⟨g4, 1, none⟩) hwg4 _)
    | two h vS vD hv hS hD he =>
     obtain ⟨⟨⟨sd, md, fs, bs, ct, sl, dl⟩, E2⟩, hC⟩ : ∃ c, c = twccP x3 := ⟨_, rfl⟩
     dsimp only at hv hS hD he h
     rw [← hC] at hv hS hD he
     dsimp only at hv hS hD he
     subst hv he
     replace hS := hS.low hbw
     replace hD := hD.low hbw
     obtain ⟨SA, sc, rfl, -, -⟩ := hS.form
     obtain ⟨DA, dc, rfl, -, -⟩ := hD.form
     by_cases hz : n = 0
     ·have HC := Aside0.mk hC
      have HH := Aside0.mk h
      have hE : (twccP x3).2 = 0 := by rw [← hC]; exact hz
      obtain ⟨f1, f2, f3, f4⟩ := twcc_facts hE
      rw [← hC] at f1 f2 f3 f4
      dsimp only at f1 f2 f3 f4
      have hoB : fdOne nf (x1, x2, x3) = .ok (reps2 fs (baseP nf bs) sl dl sl.length, [], 1) := by
       rw [fd_one2 h hE, ← hC]
      have hlo := fdOne_le hoB
      dsimp only at hlo
      have HAn := Aside0.mk (HAt.out.next HXI.out hoB)
      have q5 : (n != 0) = false := by simp [hz]
      have HS := Aside0.mk hS
      have HD := Aside0.mk hD
      have HZ := Aside0.mk hz
      have HF2 := Aside0.mk f2
      clear hC h hE hoB f2 hS hD hz
      have n1 := no_t12
      have n2 := yes_t2
      go_wp2_with fail
      clear n1 n2
      replace K4 := Aside0.mk (gb_blk (World.grownBy_alloc w4 (.cells #[.int .u32 sd, .int .u32 md, .int .i64 fs, .int .i64 bs, .int .i64 ct, .slice SA sl.length sc, .slice DA dl.length dc] 72) none) K4.out (fun k hk => by cases hk))
      replace K8 := Aside0.mk (gb_blk (World.grownBy_alloc w4 (.cells #[.int .u32 sd, .int .u32 md, .int .i64 fs, .int .i64 bs, .int .i64 ct, .slice SA sl.length sc, .slice DA dl.length dc] 72) none) K8.out (fun k hk => by cases hk))
      replace HR := Aside0.mk (HR.out.alloc (.cells #[.int .u32 sd, .int .u32 md, .int .i64 fs, .int .i64 bs, .int .i64 ct, .slice SA sl.length sc, .slice DA dl.length dc] 72))
      replace HA := Aside0.mk (HA.out.alloc (.cells #[.int .u32 sd, .int .u32 md, .int .i64 fs, .int .i64 bs, .int .i64 ct, .slice SA sl.length sc, .slice DA dl.length dc] 72))
      replace HP := Aside0.mk (HP.out.alloc (.cells #[.int .u32 sd, .int .u32 md, .int .i64 fs, .int .i64 bs, .int .i64 ct, .slice SA sl.length sc, .slice DA dl.length dc] 72))
      replace HS := Aside0.mk (HS.out.alloc (.cells #[.int .u32 sd, .int .u32 md, .int .i64 fs, .int .i64 bs, .int .i64 ct, .slice SA sl.length sc, .slice DA dl.length dc] 72))
      replace HD := Aside0.mk (HD.out.alloc (.cells #[.int .u32 sd, .int .u32 md, .int .i64 fs, .int .i64 bs, .int .i64 ct, .slice SA sl.length sc, .slice DA dl.length dc] 72))
      replace HB := Aside0.mk (HB.out.alloc HB.out.size (.cells #[.int .u32 sd, .int .u32 md, .int .i64 fs, .int .i64 bs, .int .i64 ct, .slice SA sl.length sc, .slice DA dl.length dc] 72))
      generalize w4.alloc (.cells #[.int .u32 sd, .int .u32 md, .int .i64 fs, .int .i64 bs, .int .i64 ct, .slice SA sl.length sc, .slice DA dl.length dc] 72) = wv at *
      refine (second_any _ g8 w.heap.size vR vA _ _ a.1 sd md fs bs ct nf sl dl K8.out hwg8 HR.out HS.out HD.out HF2.out f3 f4 hnI f1 (by omega)).mono ?_
      rintro e w6 ⟨rfl, vR2, K8n, HRn, HBn, HFr⟩
      obtain ⟨b', hb⟩ : ∃ b' : Fd, b' = (reps2 fs (baseP nf bs) sl dl sl.length, [], 1) := ⟨_, rfl⟩
      rw [← hb] at HAn
      obtain ⟨a', ha⟩ : ∃ a', a' = a.add b' := ⟨_, rfl⟩
      rw [← ha] at HAn
      have e1 : a'.1 = a.1 ++ (reps2 fs (baseP nf bs) sl dl sl.length) := by rw [ha, hb]; rfl
      have e2 : a'.2.1 = a.2.1 := by rw [ha, hb]; simp [Fd.add]
      have e3 : a'.2.2 = a.2.2 + 1 := by rw [ha, hb]; rfl
      have e4 : a'.1.length = a.1.length + b'.1.length := by rw [ha]; simp [Fd.add]
      have e5 : b'.1.length ≤ 65536 := by rw [hb]; exact hlo
      replace K4 := Aside0.mk (HFr.blk K4.out (by decide) n48)
      replace HA := Aside0.mk (HFr.row HA.out (by decide) (HA.out.ne K8.out (by decide)))
      replace HP := Aside0.mk (HFr.row HP.out (by decide) (HP.out.ne K8.out (by decide)))
      replace HB := Aside0.mk (HB.out.trans HBn)
      replace HR := Aside0.mk HRn
      replace K8 := Aside0.mk K8n
      have E1 := Aside0.mk e1
      have E2_ := Aside0.mk e2
      have E3 := Aside0.mk e3
      clear e1 e2 e3 ha hb HFr HRn HBn K8n
      go_wp2_with fail
      exact ⟨⟨i + 1, vR2, vA, a', by simp, by rw [E3.out]; simp, by omega, by omega, by rw [E2_.out]; omega, by rw [E3.out]; omega, HAn, K4, K8, ⟨by rw [E1.out]; exact HR.out⟩, ⟨by rw [E2_.out]; exact HA.out⟩, HP, HB⟩, by simp [intOf]; omega⟩
     ·have hE : (twccP x3).2 ≠ 0 := by rw [← hC]; exact hz
      have HFP : Aside0 (feedP s near = (([], []), n)) := ⟨feedP_bad HE.out (by rw [HSL.out, ← HNF.out]; exact HAt.out.bad HXI.out (by rw [fd_bad2 h hE, ← hC]))⟩
      have q5 : (n != 0) = true := by simp [hz]
      clear hC h hE hz hS hD
      have c0 := blk_cell K4.out 0
      have c1 := blk_cell K4.out 1
      simp only [List.getElem?_toArray, List.getElem?_cons_zero, List.getElem?_cons_succ] at c0 c1
      have f0 := blk_frozen K4.out 0
      have f1 := blk_frozen K4.out 1
      go_wp2_with fail
      (try simp only [Exit.inBlock, Exit.then])
      refine bodyPost_ret (fb_load g4 _ _ _ _ _ rfl rfl (fset K4.out (.slice none 0 0) (.slice none 0 0))) rfl ?_
      exact FeedPost.bad HFP.out ((HB.out.setCell (p := ⟨g4, 0, none⟩) hwg4 _).setCell (p := ⟨g4, 1, none⟩) hwg4 _)
    | three h vl hv hl he =>
     obtain ⟨⟨sd, md, ls, E2⟩, hC⟩ : ∃ c, c = nackDec x3 := ⟨_, rfl⟩
     dsimp only at hv hl he h
     rw [← hC] at hv hl he
     dsimp only at hv hl he
     subst hv he
     replace hl := hl.low hbw
     obtain ⟨LA, lc, rfl, -, -⟩ := hl.form
     by_cases hz : n = 0
     ·have hE : (nackDec x3).2.2.2 = 0 := by rw [← hC]; exact hz
      obtain ⟨f1, f2⟩ := nack_facts hE
      rw [← hC] at f1 f2
      dsimp only at f1 f2
      have hoB : fdOne nf (x1, x2, x3) = .ok ([], ls, 1) := by
       rw [fd_one3 h hE, ← hC]
      have HAn := Aside0.mk (HAt.out.next HXI.out hoB)
      have q5 : (n != 0) = false := by simp [hz]
      have HC := Aside0.mk hC
      have HH := Aside0.mk h
      have HLs := Aside0.mk (show RowV w4 w.heap.size 3 1 (.slice LA ls.length lc) ls.length (iV ls) from hl)
      have HZ := Aside0.mk hz
      clear hC h hE hoB hl hz
      have n1 := no_t13
      have n2 := no_t23
      have n3 := yes_t3
      obtain ⟨AA, ac, rfl, -, -⟩ := HA.out.form
      have c1 := blk_cell K8.out 1
      have f1c := blk_frozen K8.out 1
      simp only [List.getElem?_toArray, List.getElem?_cons_zero, List.getElem?_cons_succ] at c1
      obtain ⟨la, lo, lc', e_, _, _, _, hxl⟩ := HLs.out.some_ f1
      injection e_ with e_ _ e2_
      subst e_
      subst e2_
      have X4 := Aside0.mk (gb_blk (World.grownBy_alloc w4 (.cells #[.int .u32 sd, .int .u32 md, .slice (some ⟨la, lo, none⟩) ls.length lc] 75) none) K4.out (fun k hk => by cases hk))
      have X8 := Aside0.mk (gb_blk (World.grownBy_alloc w4 (.cells #[.int .u32 sd, .int .u32 md, .slice (some ⟨la, lo, none⟩) ls.length lc] 75) none) K8.out (fun k hk => by cases hk))
      have XR := Aside0.mk (HR.out.alloc (.cells #[.int .u32 sd, .int .u32 md, .slice (some ⟨la, lo, none⟩) ls.length lc] 75))
      have XA := Aside0.mk (HA.out.alloc (.cells #[.int .u32 sd, .int .u32 md, .slice (some ⟨la, lo, none⟩) ls.length lc] 75))
      have XP := Aside0.mk (HP.out.alloc (.cells #[.int .u32 sd, .int .u32 md, .slice (some ⟨la, lo, none⟩) ls.length lc] 75))
      have XL := Aside0.mk (HLs.out.alloc (.cells #[.int .u32 sd, .int .u32 md, .slice (some ⟨la, lo, none⟩) ls.length lc] 75))
      have XB := Aside0.mk (HB.out.alloc HB.out.size (.cells #[.int .u32 sd, .int .u32 md, .slice (some ⟨la, lo, none⟩) ls.length lc] 75))
      have HNX : Aside0 (∀ j u, (iV ls)[j]? = some u → (w4.alloc (.cells #[.int .u32 sd, .int .u32 md, .slice (some ⟨la, lo, none⟩) ls.length lc] 75)).cell? ((⟨la, lo, none⟩ : Addr).add j) = some u) := ⟨fun j u hj => by
       obtain ⟨la2, lo2, lc2, e_, _, _, _, hx2⟩ := XL.out.some_ f1
       injection e_ with e_ _ _
       injection e_ with e_
       injection e_ with e1 e2 _
       subst e1 e2
       rw [Addr.add_lit]
       exact hx2 j u hj⟩
      have HBX : Aside0 (w.heap.size ≤ (w4.alloc (.cells #[.int .u32 sd, .int .u32 md, .slice (some ⟨la, lo, none⟩) ls.length lc] 75)).heap.size) := ⟨XB.out.size⟩
      have h8l := blk_lt K8.out
      clear hxl K4 K8 HR HA HP HB HLs
      obtain ⟨ag, hag⟩ : ∃ x, x = a.2.1 := ⟨_, rfl⟩
      rw [← hag] at hl2 c1 X8 XA
      have HAG := Aside0.mk hag
      clear hag
      go_wp2_with (at_builtin; go_loud (refine row_append (w := w4.alloc (.cells #[.int .u32 sd, .int .u32 md, .slice (some ⟨la, lo, none⟩) ls.length lc] 75)) rfl (.tmp 65) (.tmp 67) 24 rfl 3 Try.t3 (.int .i64 0) 1 8 Try.underlying24 (by kernel_rfl) rfl rfl rfl (by decide) (by decide) w.heap.size (.slice AA ag.length ac) ag.length (iV ag) (by rfl) XA.out ⟨la, lo, none⟩ ls.length lc (iV ls) (by rfl) (by rw [iV_length, Nat.mul_one]) HNX.out (iV_one ls) (by simp only [maxLen]; omega) (by omega) HBX.out ?_); intro v1 w6 hR6 hG6 hO6 hF6; obtain ⟨g6, o6, c6_, rfl, hb6, hn6, hc6, hx6⟩ := hR6.some_ (by omega); have Y8 := gb_blkR hG6 XA.out X8.out (by decide); have Y4 := Aside0.mk (gb_blkR hG6 XA.out X4.out (by decide)); have YR := Aside0.mk (XR.out.other XA.out hG6 (by decide)); have YP := Aside0.mk (XP.out.other XA.out hG6 (by decide)); have YB := Aside0.mk (below_base XB.out hG6 (fun k hk => (XA.out.lt hk).2.1) HBX.out); have u1 := blk_cell Y8 1; have u1f := blk_frozen Y8 1; simp only [List.getElem?_toArray, List.getElem?_cons_zero, List.getElem?_cons_succ] at u1; have HA6 := Aside0.mk hR6; have HY8 := Aside0.mk Y8; clear Y8 hx6 hR6 hG6 hO6 hF6 c1 f1c)
      clear n1 n2 n3
      have e_ := blk_set HY8.out 1 (.slice (some ⟨g6, o6, none⟩) (ag.length + ls.length) c6_)
      simp only [List.setIfInBounds_toArray, List.set_cons_zero, List.set_cons_succ] at e_
      obtain ⟨a', ha⟩ : ∃ a', a' = a.add ([], ls, 1) := ⟨_, rfl⟩
      rw [← ha] at HAn
      have e1 : a'.1 = a.1 := by rw [ha]; simp [Fd.add]
      have e2 : a'.2.1 = ag ++ ls := by rw [ha, HAG.out]; simp [Fd.add]
      have e3 : a'.2.2 = a.2.2 + 1 := by rw [ha]; simp [Fd.add]
      refine ⟨⟨i + 1, vR, .slice (some ⟨g6, o6, none⟩) (ag.length + ls.length) c6_, a', by simp, by rw [e3]; simp, by omega, by rw [e1]; omega, by rw [e2, List.length_append]; omega, by omega, HAn, ⟨(Below.heap_setCell w6 (⟨g8, 1, none⟩ : Addr) _ g4 n48).trans Y4.out⟩, ⟨e_⟩, ⟨?_⟩, ⟨?_⟩, ⟨YP.out.setCell (p := ⟨g8, 1, none⟩) _ (YP.out.ne HY8.out (by decide))⟩, ⟨YB.out.setCell (p := ⟨g8, 1, none⟩) hwg8 _⟩⟩, by simp [intOf]; omega⟩
      ·rw [e1]
       exact YR.out.setCell (p := ⟨g8, 1, none⟩) _ (YR.out.ne HY8.out (by decide))
      ·rw [e2, List.length_append, iV_append]
       exact HA6.out.setCell (p := ⟨g8, 1, none⟩) _ (HA6.out.ne HY8.out (by decide))
     ·have hE : (nackDec x3).2.2.2 ≠ 0 := by rw [← hC]; exact hz
      have HFP : Aside0 (feedP s near = (([], []), n)) := ⟨feedP_bad HE.out (by rw [HSL.out, ← HNF.out]; exact HAt.out.bad HXI.out (by rw [fd_bad3 h hE, ← hC]))⟩
      have q5 : (n != 0) = true := by simp [hz]
      clear hC h hE hz hl
      have c0 := blk_cell K4.out 0
      have c1 := blk_cell K4.out 1
      simp only [List.getElem?_toArray, List.getElem?_cons_zero, List.getElem?_cons_succ] at c0 c1
      have f0 := blk_frozen K4.out 0
      have f1 := blk_frozen K4.out 1
      go_wp2_with fail
      (try simp only [Exit.inBlock, Exit.then])
      refine bodyPost_ret (fb_load g4 _ _ _ _ _ rfl rfl (fset K4.out (.slice none 0 0) (.slice none 0 0))) rfl ?_
      exact FeedPost.bad HFP.out ((HB.out.setCell (p := ⟨g4, 0, none⟩) hwg4 _).setCell (p := ⟨g4, 1, none⟩) hwg4 _)
   ·have q4 : decide ((i : Int) < (l.length : Int)) = false := decide_eq_false (by omega)
    have hil : i = l.length := by omega
    rw [hil] at HAt
    obtain ⟨r, ag, kd⟩ := a
    dsimp only at hl1 hl2 hk HR HA ⊢
    have HFP := Aside0.mk (feedP_ok HE.out (by rw [HSL.out, ← HNF.out]; exact HAt.out.done))
    clear hil HAt
    obtain ⟨RA, rc, rfl, -, -⟩ := HR.out.form
    obtain ⟨AA, ac, rfl, -, -⟩ := HA.out.form
    have c0 := blk_cell K4.out 0
    have c1 := blk_cell K4.out 1
    have d0 := blk_cell K8.out 0
    have d1 := blk_cell K8.out 1
    simp only [List.getElem?_toArray, List.getElem?_cons_zero, List.getElem?_cons_succ] at c0 c1 d0 d1
    have f0 := blk_frozen K4.out 0
    have f1 := blk_frozen K4.out 1
    by_cases hk0 : kd = 0
    ·have q5 : ((kd : Int) == 0) = true := by rw [hk0]; rfl
     replace HFP := Aside0.mk (HFP.out.trans (if_pos hk0))
     clear hk0
     go_wp2_with fail
     (try simp only [Exit.inBlock, Exit.then])
     refine bodyPost_ret (fb_load g4 _ _ _ _ _ rfl rfl (fset K4.out (.slice none 0 0) (.slice none 0 0))) rfl ?_
     exact FeedPost.bad HFP.out ((HB.out.setCell (p := ⟨g4, 0, none⟩) hwg4 _).setCell (p := ⟨g4, 1, none⟩) hwg4 _)
    have q5 : ((kd : Int) == 0) = false := by simp; omega
    replace HFP := Aside0.mk (HFP.out.trans (if_neg hk0))
    by_cases hr0 : 4096 < r.length
    ·have q6 : decide (4096 < (r.length : Int)) = true := decide_eq_true (by omega)
     replace HFP := Aside0.mk (HFP.out.trans (if_pos (.inl hr0)))
     clear hr0
     go_wp2_with fail
     (try simp only [Exit.inBlock, Exit.then])
     refine bodyPost_ret (fb_load g4 _ _ _ _ _ rfl rfl (fset K4.out (.slice none 0 0) (.slice none 0 0))) rfl ?_
     exact FeedPost.bad HFP.out ((HB.out.setCell (p := ⟨g4, 0, none⟩) hwg4 _).setCell (p := ⟨g4, 1, none⟩) hwg4 _)
    have q6 : decide (4096 < (r.length : Int)) = false := decide_eq_false (by omega)
    by_cases ha0 : 4096 < ag.length
    ·have q7 : decide (4096 < (ag.length : Int)) = true := decide_eq_true (by omega)
     replace HFP := Aside0.mk (HFP.out.trans (if_pos (.inr ha0)))
     clear ha0
     go_wp2_with fail
     (try simp only [Exit.inBlock, Exit.then])
     refine bodyPost_ret (fb_load g4 _ _ _ _ _ rfl rfl (fset K4.out (.slice none 0 0) (.slice none 0 0))) rfl ?_
     exact FeedPost.bad HFP.out ((HB.out.setCell (p := ⟨g4, 0, none⟩) hwg4 _).setCell (p := ⟨g4, 1, none⟩) hwg4 _)
    have q7 : decide (4096 < (ag.length : Int)) = false := decide_eq_false (by omega)
    replace HFP := Aside0.mk (HFP.out.trans (if_neg (by omega)))
    clear hr0 ha0 hk0
    go_wp2_with fail
    (try simp only [Exit.inBlock, Exit.then])
    refine bodyPost_ret (fb_load g4 _ _ _ _ _ rfl rfl (fset K4.out (.slice RA r.length rc) (.slice AA ag.length ac))) rfl ?_
    exact ⟨.slice RA r.length rc, .slice AA ag.length ac, by rw [HFP.out]; rfl, by rw [HFP.out]; exact (HR.out.setCell (p := ⟨g4, 0, none⟩) _ (HR.out.ne K4.out (by decide))).setCell (p := ⟨g4, 1, none⟩) _ (HR.out.ne K4.out (by decide)), by rw [HFP.out]; exact (HA.out.setCell (p := ⟨g4, 0, none⟩) _ (HA.out.ne K4.out (by decide))).setCell (p := ⟨g4, 1, none⟩) _ (HA.out.ne K4.out (by decide)), (HB.out.setCell (p := ⟨g4, 0, none⟩) hwg4 _).setCell (p := ⟨g4, 1, none⟩) hwg4 _⟩
 ·have q1 : (E != 0) = true := by simp [z]
  have hE : feedP s near = (([], []), E) := by rw [feedP_split (by rw [← HSP.out]; exact z), ← HSP.out]
  have HE := Aside0.mk hE
  clear hE z
  go_wp2_with fail
  refine bodyPost_ret (fb_load g4 _ _ _ _ _ rfl rfl (fset K4.out (.slice none 0 0) (.slice none 0 0))) rfl ?_
  exact FeedPost.bad HE.out ((HB.out.setCell (p := ⟨g4, 0, none⟩) hwg4 _).setCell (p := ⟨g4, 1, none⟩) hwg4 _)
end Go.Proofs.Ytgakmnholegbgaa.B
end
section
namespace Go.Proofs.Ytgakmnholegbgaa.B
open Go.RowKit Go.Proofs.YtgakmnholegbgaaW.PrintWords Go.Proofs.YtgakmnholegbgaaW.PrintLast Go.Proofs.YtgakmnholegbgaaW.PrintMore
set_option linter.unusedVariables false
set_option linter.unusedSimpArgs false
theorem TwPost.bad {s : ByteArray} {w w1 : World} {g2 : Nat} {e : Int} (hP : twccP s = (zeroT, e)) (hB : Below w.heap.size w w1) (h2 : w.heap.size ≤ g2) : TwPost s w (.returned (.tuple #[.agg #[.int .u32 0, .int .u32 0, .int .i64 0, .int .i64 0, .int .i64 0, .slice none 0 0, .slice none 0 0], .int .i64 e]))
  (((((((w1.setCell ⟨g2, 0, none⟩ (.int .u32 0)).setCell ⟨g2, 1, none⟩ (.int .u32 0)).setCell ⟨g2, 2, none⟩ (.int .i64 0)).setCell ⟨g2, 3, none⟩ (.int .i64 0)).setCell ⟨g2, 4, none⟩ (.int .i64 0)).setCell ⟨g2, 5, none⟩ (.slice none 0 0)).setCell ⟨g2, 6, none⟩ (.slice none 0 0)) :=
 ⟨.slice none 0 0, .slice none 0 0, by rw [hP]; rfl, by rw [hP]; exact RowV.nil _ _ _ _, by rw [hP]; exact RowV.nil _ _ _ _, ((((((hB.setCell (p := ⟨g2, 0, none⟩) h2 _).setCell (p := ⟨g2, 1, none⟩) h2 _).setCell (p := ⟨g2, 2, none⟩) h2 _).setCell (p := ⟨g2, 3, none⟩) h2 _).setCell (p := ⟨g2, 4, none⟩) h2 _).setCell (p := ⟨g2, 5, none⟩) h2 _).setCell (p := ⟨g2, 6, none⟩) h2 _⟩
theorem tw_ok {s : ByteArray} {n a b : Nat} {l d : List Int} (h1 : s.size ≤ 65536) (h2 : s.size % 4 = 0) (h3 : 16 ≤ s.size) (hn : n = rdBits s 80 16) (h4 : n ≠ 0) (h5 : n ≤ 4096) (h : statsR s 128 n = .ok (l, a)) (hd : deltasR s a l = some (d, b)) (hp : ¬ (24 < 8 * s.size - b ∨ rdBits s b (8 * s.size - b) ≠ 0)) : twccP s = (⟨(rdBits s 0 32 : Nat), (rdBits s 32 32 : Nat), (rdBits s 64 16 : Nat), signedP (rdBits s 96 24) 24, (rdBits s 120 8 : Nat), l, d⟩, 0) := by
 unfold twccP; rw [if_neg (by omega), if_neg (by omega), if_neg (by omega), ← hn, if_neg h4, if_neg (by omega), h]
 dsimp only
 rw [hd]
 dsimp only
 rw [if_neg hp]
section
variable {w0 w w' w6 : World} {s : ByteArray} {p g2 g5 pos pos' : Nat} {S M F B C : Int} {vl vd v1 : Value} {l d c : List Int} {x : Int}
end
end Go.Proofs.Ytgakmnholegbgaa.B
end
section
namespace Go.Proofs.Ytgakmnholegbgaa.B
open Go.RowKit Go.Proofs.YtgakmnholegbgaaW.PrintWords Go.Proofs.YtgakmnholegbgaaW.PrintLast Go.Proofs.YtgakmnholegbgaaW.PrintMore
set_option linter.unusedVariables false
set_option linter.unusedSimpArgs false
theorem CcfbPost.bad {s : ByteArray} {w w1 : World} {g2 : Nat} {e : Int} (hP : ccfbP s = ((0, [], 0), e)) (hB : Below w.heap.size w w1) (h2 : w.heap.size ≤ g2) : CcfbPost s w (.returned (.tuple #[.agg #[.int .u32 0, .slice none 0 0, .int .u32 0], .int .i64 e])) (((w1.setCell ⟨g2, 0, none⟩ (.int .u32 0)).setCell ⟨g2, 1, none⟩ (.slice none 0 0)).setCell ⟨g2, 2, none⟩ (.int .u32 0)) :=
 ⟨.slice none 0 0, [], by (rw [hP]; try rfl), BlocksV.nil _ _, by (rw [hP]; try rfl), ((hB.setCell (p := ⟨g2, 0, none⟩) h2 _).setCell (p := ⟨g2, 1, none⟩) h2 _).setCell (p := ⟨g2, 2, none⟩) h2 _⟩
structure CS (w0 w : World) (s : ByteArray) (p g2 g5 pos : Nat) (S : Int) (vB : Value) (L : List (B3 × Value)) : Prop where
 rd : RdIs w p 139 s (pos : Int) false
 k2 : w.heap[g2]? = some (.cells #[.int .u32 0, .slice none 0 0, .int .u32 0] 53 (0, 0))
 k5 : w.heap[g5]? = some (.cells #[.int .u32 S, vB, .int .u32 0] 53 (0, 0))
 bl : BlocksV w w0.heap.size vB L
 bel : Below w0.heap.size w0 w
 wp : w0.heap.size ≤ p
 w2 : w0.heap.size ≤ g2
 w5 : w0.heap.size ≤ g5
 n25 : g2 ≠ g5
section
variable {w0 w w' w6 : World} {s : ByteArray} {p g2 g5 pos pos' : Nat} {S : Int} {vB v1 vm : Value} {L : List (B3 × Value)} {b : B3}
theorem CS.step (h : CS w0 w s p g2 g5 pos S vB L) (hb : Below w.heap.size w w') : CS w0 w' s p g2 g5 pos S vB L :=
 ⟨(hb.block p (blk_lt h.rd)).trans h.rd, (hb.block g2 (blk_lt h.k2)).trans h.k2, (hb.block g5 (blk_lt h.k5)).trans h.k5, h.bl.below hb, h.bel.trans (hb.mono h.bel.size), h.wp, h.w2, h.w5, h.n25⟩
theorem CS.np5 (h : CS w0 w s p g2 g5 pos S vB L) : g5 ≠ p := fun e => by have a := h.k5; have b := h.rd; rw [e] at a; unfold RdIs at b; rw [a] at b; injection b with b; injection b with _ b; exact absurd b (by decide)
theorem CS.push (h : CS w0 w s p g2 g5 pos S vB L) (hm : RowV w w0.heap.size 45 3 vm b.2.2.length (metV b.2.2)) (hG : w.grownBy w6 vB.ownBlock) (hR : RowV w6 w0.heap.size 49 3 v1 (L.length + 1) (blkV L ++ [.int .u32 b.1, .int .i64 b.2.1, vm])) : CS w0 (w6.setCell ⟨g5, 1, none⟩ v1) s p g2 g5 pos S v1 (L ++ [(b, vm)]) := by
 have k5 := gb_blkR hG h.bl.1 h.k5 (by decide)
 have k2 := gb_blkR hG h.bl.1 h.k2 (by decide)
 have rd : RdIs w6 p 139 s (pos : Int) false := gb_blkR hG h.bl.1 h.rd (by decide)
 have e_ := blk_set k5 1 v1
 simp only [List.setIfInBounds_toArray, List.set_cons_zero, List.set_cons_succ] at e_
 exact ⟨(Below.heap_setCell w6 (⟨g5, 1, none⟩ : Addr) _ p h.np5.symm).trans rd, (Below.heap_setCell w6 (⟨g5, 1, none⟩ : Addr) _ g2 h.n25).trans k2, e_, (h.bl.push hm hG hR).setCell (p := ⟨g5, 1, none⟩) _ k5 (by decide) (by decide), (below_new h.bel hG (fun k hk => (h.bl.1.lt hk).2.1)).setCell (p := ⟨g5, 1, none⟩) h.w5 _, h.wp, h.w2, h.w5, h.n25⟩
end
end Go.Proofs.Ytgakmnholegbgaa.B
end
section
namespace Go.Proofs.Ytgakmnholegbgaa.B
open Go.RowKit Go.Proofs.YtgakmnholegbgaaW.PrintWords Go.Proofs.YtgakmnholegbgaaW.PrintLast Go.Proofs.YtgakmnholegbgaaW.PrintMore
set_option linter.unusedVariables false
set_option linter.unusedSimpArgs false
def cl (a lo hi : Int) : Int := if a < lo then lo else if hi < a then hi else a
end Go.Proofs.Ytgakmnholegbgaa.B
end
section
namespace Go.Proofs.Ytgakmnholegbgaa.B
open Go.RowKit Go.Proofs.YtgakmnholegbgaaW.PrintWords Go.Proofs.YtgakmnholegbgaaW.PrintLast Go.Proofs.YtgakmnholegbgaaW.PrintMore
set_option linter.unusedVariables false
set_option linter.unusedSimpArgs false
theorem PartsAt.of_row {w : World} {base : Nat} {v : Value} {l : List P3} {A : Option Addr} {n c : Nat} (h : RowV w base 56 3 v l.length (partV l)) (hv : v = .slice A n c) : n = l.length ∧ PartsAt w A l ∧ n ≤ c ∧ c ≤ maxLen := by
 obtain ⟨_, ⟨rfl, h0⟩ | ⟨g, off, cap, rfl, _, _, h1, h2, hx, _⟩⟩ := h
 ·injection hv with e1 e2 e3
  subst e1 e2 e3
  have : l = [] := List.eq_nil_of_length_eq_zero h0
  subst this
  exact ⟨rfl, fun i x hi => by simp at hi, by omega, by decide⟩
 ·injection hv with e1 e2 e3
  subst e1 e2 e3
  refine ⟨rfl, fun i x hi => ?_, h1, h2⟩
  obtain ⟨q0, q1, q2⟩ := partV_get hi
  refine ⟨_, rfl, ?_, ?_, ?_⟩
  ·rw [Addr.add_lit]; exact hx _ _ q0
  ·have := hx _ _ q1
   rw [Addr.add_lit]
   simpa [Nat.add_assoc] using this
  ·have := hx _ _ q2
   rw [Addr.add_lit]
   simpa [Nat.add_assoc] using this
theorem PartsAt.drawn {w w' : World} {A : Option Addr} {l : List P3} (h : PartsAt w A l) (hd : Drawn0 w w') : PartsAt w' A l := h.below hd.below
def sumB (l : List P3) : Nat := (l.map fun x => x.2.2.size).sum
theorem sumB_total (l : List P3) : total l = 4 * l.length + sumB l := by
 induction l with
 | nil => rfl
 | cons x l ih => rw [total_cons, ih]; simp only [sizeP, sumB, List.map_cons, List.sum_cons, List.length_cons]; omega
theorem PartsAt.news {w : World} {ad : Addr} {l : List P3} (h : PartsAt w (some ad) l) : ∀ j u, (partV l)[j]? = some u → w.cell? (ad.add j) = some u := by
 intro j u hj
 have hlt : j < l.length * 3 := by
  rw [← partV_length]
  exact (List.getElem?_eq_some_iff.1 hj).1
 have hi : j / 3 < l.length := by omega
 obtain ⟨q0, q1, q2⟩ := partV_get (List.getElem?_eq_getElem hi)
 obtain ⟨ad', e, p0, p1, p2⟩ := h (j / 3) _ (List.getElem?_eq_getElem hi)
 injection e with e
 subst e
 have h3 : j = j / 3 * 3 ∨ j = j / 3 * 3 + 1 ∨ j = j / 3 * 3 + 2 := by omega
 rcases h3 with e | e | e
 ·rw [← e] at q0 p0
  rw [hj] at q0
  rw [p0, q0]
 ·rw [← add_field _ _ 1 (by omega), ← e] at p1
  rw [← e, hj] at q1
  rw [p1, q1]
 ·rw [← add_field _ _ 2 (by omega), ← e] at p2
  rw [← e, hj] at q2
  rw [p2, q2]
theorem PartsAt.grown {w w' : World} {A : Option Addr} {l : List P3} (h : PartsAt w A l) (hb : w.grownBy w' none) : PartsAt w' A l := h.below ⟨hb.os, hb.tape, hb.output, hb.size, fun k hk => hb.block k hk (by simp)⟩
end Go.Proofs.Ytgakmnholegbgaa.B
end
section
namespace Go.Proofs.Ytgakmnholegbgaa.B
open Go.RowKit Go.Proofs.YtgakmnholegbgaaW.PrintWords Go.Proofs.YtgakmnholegbgaaW.PrintLast Go.Proofs.YtgakmnholegbgaaW.PrintMore
set_option linter.unusedVariables false
set_option linter.unusedSimpArgs false
theorem byteN_rest (s : ByteArray) (a i : Nat) : byteN (s.extract a s.size) i = byteN s (a + i) := by
 unfold byteN bt
 simp only [Int.toNat_natCast, ByteArray.size_extract]
 by_cases h : a + i < s.size
 ·rw [dif_pos (by omega), dif_pos h]
  simp [ByteArray.getElem_extract]
 ·rw [dif_neg (by omega), dif_neg h]
theorem rest_extract (s : ByteArray) (a c d : Nat) (h : a + d ≤ s.size) : (s.extract a s.size).extract c d = s.extract (a + c) (a + d) := by
 rw [ByteArray.extract_extract, Nat.min_eq_left h]
theorem four_words (x y : Int) (hx : 0 ≤ x ∧ x < 256) (hy : 0 ≤ y ∧ y < 256) : wrap64 (4 * wrap64 (wrap64 (wrap64 x * 256) + wrap64 y)) = 4 * (x * 256 + y) := by
 have e1 : wrap64 x = x := by unfold wrap64; omega
 have e2 : wrap64 y = y := by unfold wrap64; omega
 have e3 : wrap64 (x * 256) = x * 256 := by unfold wrap64; omega
 have e4 : wrap64 (x * 256 + y) = x * 256 + y := by unfold wrap64; omega
 rw [e1, e2, e3, e4]
 unfold wrap64
 omega
theorem and_pad (V : Nat) (h : V < 256) : bits BinOp.and IntKind.u8 ((V : Int) / 32) 1 = ((V / 32 % 2 : Nat) : Int) := by
 have key : ∀ v < 8, bits BinOp.and IntKind.u8 ((v : Nat) : Int) 1 = ((v % 2 : Nat) : Int) := by decide
 have := key (V / 32) (by omega)
 rw [← this]
 rfl
theorem partErr_is {r : ByteArray} {V0 V1 N : Nat} (h0 : byteN r 0 = V0) (h1 : byteN r 1 = V1) (hp : partSize r = 4 + N) (hs : 4 + N ≤ r.size) :
  partErr r = if V0 / 64 % 4 ≠ 2 then 70 else if V1 < 192 ∨ 223 < V1 then 81 else if V0 / 32 % 2 = 1 ∧ ¬ (4 + N = r.size ∧ 4 ≤ padN r ∧ padN r % 4 = 0 ∧ padN r ≤ N) then 91 else 0 := by
 unfold partErr
 rw [if_neg (by omega), hp, if_neg (by omega), h0, h1, Nat.add_sub_cancel_left]
theorem padN_is {s r : ByteArray} {a N : Nat} (hr : r = s.extract a s.size) (hp : partSize r = 4 + N) (h : 0 < N) : padN r = byteN s (a + 4 + (N - 1)) := by
 unfold padN
 rw [hp, if_pos (by omega), hr, byteN_rest]
 congr 1
 omega
theorem padN_zero {r : ByteArray} (hp : partSize r = 4) : padN r = 0 := by
 unfold padN
 rw [hp, if_neg (by omega)]
theorem bt_extract (s : ByteArray) (a b i : Nat) (h : a + i < b) (hb : b ≤ s.size) : bt (s.extract a b) (i : Int) = (byteN s (a + i) : Int) := by
 rw [← byteN_bt s (a + i)]
 unfold bt
 simp only [Int.toNat_natCast, ByteArray.size_extract]
 rw [dif_pos (by omega), dif_pos (by omega)]
 simp [ByteArray.getElem_extract]
def QJ (w0 : World) (s : ByteArray) (v4 v5 : Value) (wr : World) : Prop := ∃ (a : Nat) (l : List P3), v5 = .int .i64 a ∧ Aside0 (RowV wr w0.heap.size 56 3 v4 l.length (partV l)) ∧ a ≤ s.size ∧ Aside0 (4 * l.length ≤ a) ∧ Aside0 (Behind s l (s.extract a s.size)) ∧ Aside0 (Below w0.heap.size w0 wr)
set_option maxHeartbeats 4000000 in
set_option maxRecDepth 100000 in
theorem rsplit_some (s : ByteArray) (w : World) (h0 : ¬ s.size = 0) (h1 : s.size ≤ 65536) : Calls Try.prog 12 #[.string s] w (SplitPost s w) := by
 have d1 : decide (65536 < (s.size : Int)) = false := decide_eq_false (by omega)
 have d2 : s.toList.isEmpty = false := by rw [str_empty_]; exact decide_eq_false h0
 go_enter Try.func12, Try.ntmps12
 go_wp2_with fail
 go_loopw [4, 5, 6, 7, 8, 9] (fun v4 v5 _ _ _ _ wr => QJ w s v4 v5 wr) (fun _ v _ _ _ _ _ => s.size - (intOf v).toNat)
 case atStart => exact ⟨0, [], rfl, ⟨RowV.nil _ _ _ _⟩, by omega, ⟨by simp⟩, ⟨by simpa using Behind.start s⟩, ⟨Below.refl _ _⟩⟩
 case round =>
  obtain ⟨a, l, rfl, hR, ha, hal, hBe, hB⟩ := hrel
  by_cases hlt : a < s.size
  ·obtain ⟨r, hr⟩ : ∃ r, r = s.extract a s.size := ⟨_, rfl⟩
   have hrs : r.size = s.size - a := by rw [hr]; simp
   have e0 : byteN r 0 = byteN s a := by rw [hr, byteN_rest]; rfl
   have e1 : byteN r 1 = byteN s (a + 1) := by rw [hr, byteN_rest]
   have e2 : byteN r 2 = byteN s (a + 2) := by rw [hr, byteN_rest]
   have e3 : byteN r 3 = byteN s (a + 3) := by rw [hr, byteN_rest]
   rw [← hr] at hBe
   have q1 : decide ((a : Int) < (s.size : Int)) = true := decide_eq_true (by omega)
   by_cases z1 : s.size - a < 4
   ·have q2 : decide ((s.size : Int) - (a : Int) < 4) = true := decide_eq_true (by omega)
    have HE := Aside0.mk (splitP_bad h1 h0 (hBe.out.bad (by omega) (show partErr r ≠ 0 by unfold partErr; rw [if_pos (by omega)]; decide)))
    have HE2 := Aside0.mk (show partErr r = 60 by unfold partErr; rw [if_pos (by omega)])
    go_wp2_with fail
    go_ret2
    exact ⟨_, by rw [HE.out, HE2.out]; rfl, by rw [HE.out]; exact RowV.nil _ _ _ _, hB.out⟩
   ·have q2 : decide ((s.size : Int) - (a : Int) < 4) = false := decide_eq_false (by omega)
    have hb2 := bt_at s ((a : Int) + 2)
    have hb3 := bt_at s ((a : Int) + 3)
    have i2 : (0 : Int) ≤ (a : Int) + 2 := by omega
    have i3 : (0 : Int) ≤ (a : Int) + 3 := by omega
    have j2 : (a : Int) + 2 < (s.size : Int) := by omega
    have j3 : (a : Int) + 3 < (s.size : Int) := by omega
    go_wp2_with fail
    go_quiet (fail)
    have hV0 := byteN_bt s a
    have hV1 := byteN_bt s (a + 1)
    have hV2 := byteN_bt s (a + 2)
    have hV3 := byteN_bt s (a + 3)
    have l0 := byteN_lt s a
    have l1 := byteN_lt s (a + 1)
    have l2 := byteN_lt s (a + 2)
    have l3 := byteN_lt s (a + 3)
    obtain ⟨V0, hv0⟩ : ∃ V, V = byteN s a := ⟨_, rfl⟩
    obtain ⟨V1, hv1⟩ : ∃ V, V = byteN s (a + 1) := ⟨_, rfl⟩
    obtain ⟨V2, hv2⟩ : ∃ V, V = byteN s (a + 2) := ⟨_, rfl⟩
    obtain ⟨V3, hv3⟩ : ∃ V, V = byteN s (a + 3) := ⟨_, rfl⟩
    rw [← hv0] at hV0 l0 e0
    rw [← hv1] at hV1 l1 e1
    rw [← hv2] at hV2 l2 e2
    rw [← hv3] at hV3 l3 e3
    obtain ⟨N, hN⟩ : ∃ N, N = 4 * (V2 * 256 + V3) := ⟨_, rfl⟩
    have eN : wrap64 (4 * wrap64 (wrap64 (wrap64 (bt s ((a : Int) + 2)) * 256) + wrap64 (bt s ((a : Int) + 3)))) = (N : Int) := by
     rw [four_words _ _ (by have := bt_range s ((a : Int) + 2); omega) (by have := bt_range s ((a : Int) + 3); omega)]
     rw [show (a : Int) + 2 = ((a + 2 : Nat) : Int) by omega, show (a : Int) + 3 = ((a + 3 : Nat) : Int) by omega, hV2, hV3, hN]
     omega
    rw [eN]
    have hps : partSize r = 4 + N := by unfold partSize; rw [e2, e3, hN]
    have hNl : N ≤ 262140 := by omega
    clear eN hb2 hb3 hN hv2 hv3 hV2 hV3 l2 l3 e2 e3 V2 V3 i2 i3 j2 j3
    by_cases z2 : s.size - a < 4 + N
    ·have q3 : decide ((s.size : Int) - (a : Int) - 4 < (N : Int)) = true := decide_eq_true (by omega)
     have hp : partErr r = 60 := by unfold partErr; rw [if_neg (by omega), if_pos (by omega)]
     have HE := Aside0.mk (splitP_bad h1 h0 (hBe.out.bad (by omega) (by rw [hp]; decide)))
     have HE2 := Aside0.mk hp
     clear hp
     go_wp2_with fail
     go_ret2
     exact ⟨_, by rw [HE.out, HE2.out]; rfl, by rw [HE.out]; exact RowV.nil _ _ _ _, pw_below_drewN hB.out nq⟩
    ·have q3 : decide ((s.size : Int) - (a : Int) - 4 < (N : Int)) = false := decide_eq_false (by omega)
     have hb0 : ∀ h : a < s.size, ((s[a]'h).toNat : Int) = (V0 : Int) := fun h => by
      have := bt_at s (a : Int) (by simpa using h)
      rw [hV0] at this
      simpa using this
     have hb1 : ∀ h : a + 1 < s.size, ((s[a + 1]'h).toNat : Int) = (V1 : Int) := fun h => by
      have := bt_at s ((a + 1 : Nat) : Int) (by simpa using h)
      rw [hV1] at this
      simpa using this
     have n0 : ((wr.drewN (nq + 1)).alloc (.cells #[.int .i64 0, .int .i64 0, .string { data := #[] }] 56)).cell? ⟨wr.heap.size, 0, none⟩ = some (.int .i64 0) := (World.cell?_alloc_mark (wr.drewN (nq + 1)) _ _ (0, 0) 0).trans rfl
     have f0 : ((wr.drewN (nq + 1)).alloc (.cells #[.int .i64 0, .int .i64 0, .string { data := #[] }] 56)).frozen? ⟨wr.heap.size, 0, none⟩ = false := (World.frozen?_alloc_mark (wr.drewN (nq + 1)) _ _ 0 0 0).trans rfl
     have n1 : ((wr.drewN (nq + 1)).alloc (.cells #[.int .i64 0, .int .i64 0, .string { data := #[] }] 56)).cell? ⟨wr.heap.size, 1, none⟩ = some (.int .i64 0) := (World.cell?_alloc_mark (wr.drewN (nq + 1)) _ _ (0, 0) 1).trans rfl
     have f1 : ((wr.drewN (nq + 1)).alloc (.cells #[.int .i64 0, .int .i64 0, .string { data := #[] }] 56)).frozen? ⟨wr.heap.size, 1, none⟩ = false := (World.frozen?_alloc_mark (wr.drewN (nq + 1)) _ _ 0 0 1).trans rfl
     have n2 : ((wr.drewN (nq + 1)).alloc (.cells #[.int .i64 0, .int .i64 0, .string { data := #[] }] 56)).cell? ⟨wr.heap.size, 2, none⟩ = some (.string { data := #[] }) := (World.cell?_alloc_mark (wr.drewN (nq + 1)) _ _ (0, 0) 2).trans rfl
     have f2 : ((wr.drewN (nq + 1)).alloc (.cells #[.int .i64 0, .int .i64 0, .string { data := #[] }] 56)).frozen? ⟨wr.heap.size, 2, none⟩ = false := (World.frozen?_alloc_mark (wr.drewN (nq + 1)) _ _ 0 0 2).trans rfl
     have i1 : (0 : Int) ≤ (a : Int) + 1 := by omega
     have j0 : (a : Int) < (s.size : Int) := by omega
     have j1 : (a : Int) + 1 < (s.size : Int) := by omega
     have k1 : (a : Int) + 4 ≤ (a : Int) + 4 + (N : Int) := by omega
     have k2 : (a : Int) + 4 + (N : Int) ≤ (s.size : Int) := by omega
     have HBn := Aside0.mk (pw_below_drewN hB.out nq)
     have HRn := Aside0.mk (hR.out.below (pw_below_drewN (Below.refl _ _) nq))
     have HPE := Aside0.mk (And.intro e0 (And.intro e1 hps))
     have HVV := Aside0.mk (And.intro hv0 (And.intro hv1 (And.intro hV0 hV1)))
     have HRR := Aside0.mk hr
     clear hv0 hv1 hr hV0 hV1 e0 e1 hps
     go_wp2_with fail
     go_region
     obtain ⟨B, hBB⟩ : ∃ B, B = s.extract (a + 4) (a + 4 + N) := ⟨_, rfl⟩
     rw [← hBB]
     obtain ⟨g, hg⟩ : ∃ g, g = wr.heap.size := ⟨_, rfl⟩
     have HW1 : ((((((wr.drewN (nq + 1)).alloc (Obj.cells #[Value.int IntKind.i64 0, Value.int IntKind.i64 0, Value.string { data := #[] }] 56)).setCell { block := wr.heap.size, off := 0 } (Value.int IntKind.i64 ((V0 : Int) % 32))).setCell { block := wr.heap.size, off := 1 } (Value.int IntKind.i64 (V1 : Int))).setCell { block := wr.heap.size, off := 2 } (Value.string B))).heap[g]? = some (.cells #[.int .i64 ((V0 : Int) % 32), .int .i64 (V1 : Int), .string B] 56 (0, 0)) := by
      have h := blk_set (blk_set (blk_set (blk_new (wr.drewN (nq + 1)) (Obj.cells #[Value.int IntKind.i64 0, Value.int IntKind.i64 0, Value.string { data := #[] }] 56)) 0 (.int .i64 ((V0 : Int) % 32))) 1 (.int .i64 (V1 : Int))) 2 (.string B)
      rw [hg]
      exact h
     have HBw : Below w.heap.size w ((((((wr.drewN (nq + 1)).alloc (Obj.cells #[Value.int IntKind.i64 0, Value.int IntKind.i64 0, Value.string { data := #[] }] 56)).setCell { block := wr.heap.size, off := 0 } (Value.int IntKind.i64 ((V0 : Int) % 32))).setCell { block := wr.heap.size, off := 1 } (Value.int IntKind.i64 (V1 : Int))).setCell { block := wr.heap.size, off := 2 } (Value.string B))) :=
      ((((pw_below_drewN hB.out (nq + 1)).alloc hB.out.size _).setCell (p := ⟨wr.heap.size, 0, none⟩) hB.out.size _).setCell (p := ⟨wr.heap.size, 1, none⟩) hB.out.size _).setCell (p := ⟨wr.heap.size, 2, none⟩) hB.out.size _
     have hRa : RowV ((wr.drewN (nq + 1)).alloc (Obj.cells #[Value.int IntKind.i64 0, Value.int IntKind.i64 0, Value.string { data := #[] }] 56)) w.heap.size 56 3 u4 l.length (partV l) := (hR.out.below (pw_below_drewN (Below.refl _ _) (nq + 1))).alloc _
     have hne : u4.ownBlock ≠ some wr.heap.size := fun e => by have := (hR.out.lt e).1; omega
     have HRw : RowV ((((((wr.drewN (nq + 1)).alloc (Obj.cells #[Value.int IntKind.i64 0, Value.int IntKind.i64 0, Value.string { data := #[] }] 56)).setCell { block := wr.heap.size, off := 0 } (Value.int IntKind.i64 ((V0 : Int) % 32))).setCell { block := wr.heap.size, off := 1 } (Value.int IntKind.i64 (V1 : Int))).setCell { block := wr.heap.size, off := 2 } (Value.string B))) w.heap.size 56 3 u4 l.length (partV l) :=
      ((hRa.setCell (p := ⟨wr.heap.size, 0, none⟩) _ hne).setCell (p := ⟨wr.heap.size, 1, none⟩) _ hne).setCell (p := ⟨wr.heap.size, 2, none⟩) _ hne
     have hgw : w.heap.size ≤ g := by rw [hg]; exact hB.out.size
     have hneg : u4.ownBlock ≠ some g := by rw [hg]; exact hne
     rw [← hg] at HW1 HBw HRw ⊢
     generalize ((((((wr.drewN (nq + 1)).alloc (Obj.cells #[Value.int IntKind.i64 0, Value.int IntKind.i64 0, Value.string { data := #[] }] 56)).setCell { block := g, off := 0 } (Value.int IntKind.i64 ((V0 : Int) % 32))).setCell { block := g, off := 1 } (Value.int IntKind.i64 (V1 : Int))).setCell { block := g, off := 2 } (Value.string B))) = WW at *
     have hpad := @padN_is s r a N HRR.out HPE.out.2.2
     have hpad0 := @padN_zero r
     have HK1 := Aside0.mk HW1
     have HB1 := Aside0.mk HBw
     have HR1 := Aside0.mk HRw
     have hgl := blk_lt HW1
     have u0 := blk_cell HW1 0
     have u1 := blk_cell HW1 1
     have u2 := blk_cell HW1 2
     have g2f := blk_frozen HW1 2
     simp only [List.getElem?_toArray, List.getElem?_cons_zero, List.getElem?_cons_succ] at u0 u1 u2
     have HBw := HB1
     have HPAD := Aside0.mk hpad
     have HPAD0 := Aside0.mk hpad0
     have hBs : B.size = N := by rw [hBB, ByteArray.size_extract]; omega
     obtain ⟨nl, hnl⟩ : ∃ n, n = l.length := ⟨_, rfl⟩
     rw [← hnl] at HR1
     have HN := Aside0.mk hnl
     have hnl9 : 4 * nl ≤ a := by have := hal.out; omega
     have HBB := Aside0.mk hBB
     clear hpad hpad0 HW1 HRw n0 n1 n2 f0 f1 f2 hRa hne hg hBB hnl hR
     by_cases z3 : V0 / 64 = 2
     ·have q4 : ((V0 : Int) / 64 != 2) = false := by simp; omega
      by_cases z4 : V1 < 192
      ·have q5 : decide ((V1 : Int) < 192) = true := decide_eq_true (by omega)
       have hp : partErr r = 81 := by rw [partErr_is HPE.out.1 HPE.out.2.1 HPE.out.2.2 (by omega)]; rw [if_neg (by omega), if_pos (by omega)]
       have HE := Aside0.mk (splitP_bad h1 h0 (hBe.out.bad (by omega) (by rw [hp]; decide)))
       have HE2 := Aside0.mk hp
       clear hp
       go_wp2_with fail
       go_ret2
       exact ⟨_, by rw [HE.out, HE2.out]; rfl, by rw [HE.out]; exact RowV.nil _ _ _ _, HBw.out⟩
      ·have q5 : decide ((V1 : Int) < 192) = false := decide_eq_false (by omega)
       by_cases z5 : 223 < V1
       ·have q6 : decide (223 < (V1 : Int)) = true := decide_eq_true (by omega)
        have hp : partErr r = 81 := by rw [partErr_is HPE.out.1 HPE.out.2.1 HPE.out.2.2 (by omega)]; rw [if_neg (by omega), if_pos (by omega)]
        have HE := Aside0.mk (splitP_bad h1 h0 (hBe.out.bad (by omega) (by rw [hp]; decide)))
        have HE2 := Aside0.mk hp
        clear hp
        go_wp2_with fail
        go_ret2
        exact ⟨_, by rw [HE.out, HE2.out]; rfl, by rw [HE.out]; exact RowV.nil _ _ _ _, HBw.out⟩
       ·have q6 : decide (223 < (V1 : Int)) = false := decide_eq_false (by omega)
        by_cases z6 : V0 / 32 % 2 = 1
        ·have q7 : (bits BinOp.and IntKind.u8 ((V0 : Int) / 32) 1 == 1) = true := by rw [and_pad V0 l0, z6]; rfl
         by_cases z7 : a + (4 + N) < s.size
         ·have q8 : decide ((a : Int) + (4 + (N : Int)) < (s.size : Int)) = true := decide_eq_true (by omega)
          have hp : partErr r = 91 := by rw [partErr_is HPE.out.1 HPE.out.2.1 HPE.out.2.2 (by omega)]; rw [if_neg (by omega), if_neg (by omega), if_pos ⟨z6, by omega⟩]
          have HE := Aside0.mk (splitP_bad h1 h0 (hBe.out.bad (by omega) (by rw [hp]; decide)))
          have HE2 := Aside0.mk hp
          clear hp
          go_wp2_with fail
          go_ret2
          exact ⟨_, by rw [HE.out, HE2.out]; rfl, by rw [HE.out]; exact RowV.nil _ _ _ _, HBw.out⟩
         ·have q8 : decide ((a : Int) + (4 + (N : Int)) < (s.size : Int)) = false := decide_eq_false (by omega)
          by_cases z8 : N = 0
          ·have q9 : ((N : Int) == 0) = true := by simp; omega
           have hp : partErr r = 91 := by rw [partErr_is HPE.out.1 HPE.out.2.1 HPE.out.2.2 (by omega)]; rw [if_neg (by omega), if_neg (by omega), if_pos ⟨z6, by have := HPAD0.out (by rw [HPE.out.2.2, z8]); omega⟩]
           have HE := Aside0.mk (splitP_bad h1 h0 (hBe.out.bad (by omega) (by rw [hp]; decide)))
           have HE2 := Aside0.mk hp
           clear hp
           go_wp2_with fail
           go_ret2
           exact ⟨_, by rw [HE.out, HE2.out]; rfl, by rw [HE.out]; exact RowV.nil _ _ _ _, HBw.out⟩
          ·have q9 : ((N : Int) == 0) = false := by simp; omega
           obtain ⟨K, hK⟩ : ∃ K, K = byteN s (a + 4 + (N - 1)) := ⟨_, rfl⟩
           have hKl : K < 256 := by rw [hK]; exact byteN_lt _ _
           have hpK : padN r = K := by rw [hK]; exact HPAD.out (by omega)
           have hbk : ∀ h : ((N : Int) - 1).toNat < B.size, ((B[((N : Int) - 1).toNat]'h).toNat : Int) = (K : Int) := fun h => by
            rw [bt_at B ((N : Int) - 1) h, show (N : Int) - 1 = ((N - 1 : Nat) : Int) by omega, HBB.out, bt_extract s _ _ _ (by omega) (by omega), hK]
           have hbk2 : ∀ h : N - 1 < B.size, ((B[N - 1]'h).toNat : Int) = (K : Int) := fun h => by
            have := hbk (by omega)
            rw [← this]
            congr 3
            omega
           have r1 : (0 : Int) ≤ (N : Int) - 1 := by omega
           have r2 : (N : Int) - 1 < (N : Int) := by omega
           have r3 : (N : Int) - 1 < (B.size : Int) := by omega
           have HKp := Aside0.mk hpK
           clear hK hpK
           by_cases z9 : K < 4
           ·have q10 : decide ((K : Int) < 4) = true := decide_eq_true (by omega)
            have hp : partErr r = 91 := by rw [partErr_is HPE.out.1 HPE.out.2.1 HPE.out.2.2 (by omega)]; rw [if_neg (by omega), if_neg (by omega), if_pos ⟨z6, by rw [HKp.out]; omega⟩]
            have HE := Aside0.mk (splitP_bad h1 h0 (hBe.out.bad (by omega) (by rw [hp]; decide)))
            have HE2 := Aside0.mk hp
            clear hp
            go_wp2_with fail
            go_ret2
            exact ⟨_, by rw [HE.out, HE2.out]; rfl, by rw [HE.out]; exact RowV.nil _ _ _ _, HBw.out⟩
           ·have q10 : decide ((K : Int) < 4) = false := decide_eq_false (by omega)
            by_cases z10 : K % 4 = 0
            ·have q11 : ((K : Int) % 4 != 0) = false := by simp; omega
             by_cases z11 : N < K
             ·have q12 : decide ((N : Int) < (K : Int)) = true := decide_eq_true (by omega)
              have hp : partErr r = 91 := by rw [partErr_is HPE.out.1 HPE.out.2.1 HPE.out.2.2 (by omega)]; rw [if_neg (by omega), if_neg (by omega), if_pos ⟨z6, by rw [HKp.out]; omega⟩]
              have HE := Aside0.mk (splitP_bad h1 h0 (hBe.out.bad (by omega) (by rw [hp]; decide)))
              have HE2 := Aside0.mk hp
              clear hp
              go_wp2_with fail
              go_ret2
              exact ⟨_, by rw [HE.out, HE2.out]; rfl, by rw [HE.out]; exact RowV.nil _ _ _ _, HBw.out⟩
             ·have q12 : decide ((N : Int) < (K : Int)) = false := decide_eq_false (by omega)
              have r4 : (0 : Int) ≤ (N : Int) - (K : Int) := by omega
              have r5 : (N : Int) - (K : Int) ≤ (N : Int) := by omega
              have r6 : (N : Int) - (K : Int) ≤ (B.size : Int) := by omega
              go_upto_region 27 with fail
              obtain ⟨Z, hZ⟩ : ∃ Z, Z = B.extract 0 (N - K) := ⟨_, rfl⟩
              rw [← hZ]
              have hk2 := blk_set HK1.out 2 (.string Z)
              have HKw : Aside0 ((WW.setCell ⟨g, 2, none⟩ (.string Z)).heap[g]? = some (.cells #[.int .i64 ((V0 : Int) % 32), .int .i64 (V1 : Int), .string Z] 56 (0, 0))) := ⟨hk2⟩
              have HRw := Aside0.mk (HR1.out.setCell (p := ⟨g, 2, none⟩) (.string Z) hneg)
              have HBw := Aside0.mk (HB1.out.setCell (p := ⟨g, 2, none⟩) hgw (.string Z))
              have HP0 := Aside0.mk (show partErr r = 0 by rw [partErr_is HPE.out.1 HPE.out.2.1 HPE.out.2.2 (by omega)]; rw [if_neg (by omega), if_neg (by omega), if_neg (fun h => h.2 ⟨by omega, by rw [HKp.out]; omega, by rw [HKp.out]; omega, by rw [HKp.out]; omega⟩)])
              have hbody : partBody r = Z := by
               unfold partBody
               rw [HPE.out.1, HPE.out.2.2, if_pos z6, HKp.out, HRR.out, rest_extract _ _ _ _ (by omega), hZ, HBB.out, ByteArray.extract_extract]
               congr 1 <;> omega
              have HZV := Aside0.mk (show partV l ++ [Value.int IntKind.i64 ((V0 : Int) % 32), Value.int IntKind.i64 (V1 : Int), Value.string Z] = partV (l ++ [partOf r]) by
               rw [partV_snoc]
               unfold partOf
               rw [hbody, HPE.out.1, HPE.out.2.1]
               rfl)
              clear hbody hZ
              clear hk2 u0 u1 u2 g2f
              generalize WW.setCell ⟨g, 2, none⟩ (.string Z) = WW at *
              have u0 := blk_cell HKw.out 0
              have u1 := blk_cell HKw.out 1
              have u2 := blk_cell HKw.out 2
              simp only [List.getElem?_toArray, List.getElem?_cons_zero, List.getElem?_cons_succ] at u0 u1 u2
              have HRy := Aside0.mk (HRw.out.alloc (.cells #[.int .i64 ((V0 : Int) % 32), .int .i64 (V1 : Int), .string Z] 56))
              have HBy := Aside0.mk (HBw.out.alloc (o := .cells #[.int .i64 ((V0 : Int) % 32), .int .i64 (V1 : Int), .string Z] 56) HBw.out.size)
              have HNX := Aside0.mk (new_news WW [.int .i64 ((V0 : Int) % 32), .int .i64 (V1 : Int), .string Z] 56)
              have HSy : Aside0 (w.heap.size ≤ (WW.alloc (.cells #[.int .i64 ((V0 : Int) % 32), .int .i64 (V1 : Int), .string Z] 56)).heap.size) := ⟨HBy.out.size⟩
              go_wp2_with (at_builtin; go_loud (refine row_append (w := WW.alloc (.cells #[.int .i64 ((V0 : Int) % 32), .int .i64 (V1 : Int), .string Z] 56)) rfl (.tmp 120) (.tmp 122) 36 rfl 56 Try.t56 (.agg #[.int .i64 0, .int .i64 0, .string { data := #[] }]) 3 32 Try.underlying36 (by kernel_rfl) rfl rfl rfl (by decide) (by decide) w.heap.size u4 nl (partV l) (by rfl) HRy.out ⟨WW.heap.size, 0, none⟩ 1 1 [.int .i64 ((V0 : Int) % 32), .int .i64 (V1 : Int), .string Z] (by rfl) rfl HNX.out (by simp [Value.oneCell']) (by simp only [maxLen]; omega) (by omega) HSy.out ?_); intro v6 w6 hR6 hG6 hO6 hF6; have HR6 := Aside0.mk hR6; have HB6 := Aside0.mk (below_new HBy.out hG6 (fun k hk => (HRy.out.lt hk).2.1)); clear hR6 hG6 hO6 hF6)
              refine ⟨⟨a + (4 + N), l ++ [partOf r], by simp, ⟨?_⟩, by omega, ⟨?_⟩, ⟨?_⟩, HB6⟩, ?_⟩
              ·have h := HR6.out
               rw [HZV.out] at h
               rw [List.length_append, ← HN.out]
               exact h
              ·rw [List.length_append]
               simp only [List.length_cons, List.length_nil]
               have := hal.out
               omega
              ·have h := hBe.out.next (by omega) HP0.out
               have e : restOf r = s.extract (a + (4 + N)) s.size := by
                unfold restOf
                rw [HPE.out.2.2, hrs, HRR.out, rest_extract _ _ _ _ (by omega)]
                congr 1
                omega
               rw [e] at h
               exact h
              ·simp [intOf]
               omega
            ·have q11 : ((K : Int) % 4 != 0) = true := by simp; omega
             have hp : partErr r = 91 := by rw [partErr_is HPE.out.1 HPE.out.2.1 HPE.out.2.2 (by omega)]; rw [if_neg (by omega), if_neg (by omega), if_pos ⟨z6, by rw [HKp.out]; omega⟩]
             have HE := Aside0.mk (splitP_bad h1 h0 (hBe.out.bad (by omega) (by rw [hp]; decide)))
             have HE2 := Aside0.mk hp
             clear hp
             go_wp2_with fail
             go_ret2
             exact ⟨_, by rw [HE.out, HE2.out]; rfl, by rw [HE.out]; exact RowV.nil _ _ _ _, HBw.out⟩
        ·have q7 : (bits BinOp.and IntKind.u8 ((V0 : Int) / 32) 1 == 1) = false := by rw [and_pad V0 l0, show V0 / 32 % 2 = 0 by omega]; rfl
         go_upto_region 27 with fail
         obtain ⟨Z, hZ⟩ : ∃ Z, Z = B := ⟨_, rfl⟩
         rw [← hZ]
         rw [← hZ] at HK1
         have HKw := HK1
         have HRw := HR1
         have HBw := HB1
         have HP0 := Aside0.mk (show partErr r = 0 by rw [partErr_is HPE.out.1 HPE.out.2.1 HPE.out.2.2 (by omega)]; rw [if_neg (by omega), if_neg (by omega), if_neg (fun h => z6 h.1)])
         have hbody : partBody r = Z := by
          unfold partBody
          rw [HPE.out.1, HPE.out.2.2, if_neg z6, HRR.out, rest_extract _ _ _ _ (by omega), hZ, HBB.out]
          congr 1 <;> omega
         have HZV := Aside0.mk (show partV l ++ [Value.int IntKind.i64 ((V0 : Int) % 32), Value.int IntKind.i64 (V1 : Int), Value.string Z] = partV (l ++ [partOf r]) by
          rw [partV_snoc]
          unfold partOf
          rw [hbody, HPE.out.1, HPE.out.2.1]
          rfl)
         clear hbody hZ
         clear u0 u1 u2 g2f
         have u0 := blk_cell HKw.out 0
         have u1 := blk_cell HKw.out 1
         have u2 := blk_cell HKw.out 2
         simp only [List.getElem?_toArray, List.getElem?_cons_zero, List.getElem?_cons_succ] at u0 u1 u2
         have HRy := Aside0.mk (HRw.out.alloc (.cells #[.int .i64 ((V0 : Int) % 32), .int .i64 (V1 : Int), .string Z] 56))
         have HBy := Aside0.mk (HBw.out.alloc (o := .cells #[.int .i64 ((V0 : Int) % 32), .int .i64 (V1 : Int), .string Z] 56) HBw.out.size)
         have HNX := Aside0.mk (new_news WW [.int .i64 ((V0 : Int) % 32), .int .i64 (V1 : Int), .string Z] 56)
         have HSy : Aside0 (w.heap.size ≤ (WW.alloc (.cells #[.int .i64 ((V0 : Int) % 32), .int .i64 (V1 : Int), .string Z] 56)).heap.size) := ⟨HBy.out.size⟩
         go_wp2_with (at_builtin; go_loud (refine row_append (w := WW.alloc (.cells #[.int .i64 ((V0 : Int) % 32), .int .i64 (V1 : Int), .string Z] 56)) rfl (.tmp 120) (.tmp 122) 36 rfl 56 Try.t56 (.agg #[.int .i64 0, .int .i64 0, .string { data := #[] }]) 3 32 Try.underlying36 (by kernel_rfl) rfl rfl rfl (by decide) (by decide) w.heap.size u4 nl (partV l) (by rfl) HRy.out ⟨WW.heap.size, 0, none⟩ 1 1 [.int .i64 ((V0 : Int) % 32), .int .i64 (V1 : Int), .string Z] (by rfl) rfl HNX.out (by simp [Value.oneCell']) (by simp only [maxLen]; omega) (by omega) HSy.out ?_); intro v6 w6 hR6 hG6 hO6 hF6; have HR6 := Aside0.mk hR6; have HB6 := Aside0.mk (below_new HBy.out hG6 (fun k hk => (HRy.out.lt hk).2.1)); clear hR6 hG6 hO6 hF6)
         refine ⟨⟨a + (4 + N), l ++ [partOf r], by simp, ⟨?_⟩, by omega, ⟨?_⟩, ⟨?_⟩, HB6⟩, ?_⟩
         ·have h := HR6.out
          rw [HZV.out] at h
          rw [List.length_append, ← HN.out]
          exact h
         ·rw [List.length_append]
          simp only [List.length_cons, List.length_nil]
          have := hal.out
          omega
         ·have h := hBe.out.next (by omega) HP0.out
          have e : restOf r = s.extract (a + (4 + N)) s.size := by
           unfold restOf
           rw [HPE.out.2.2, hrs, HRR.out, rest_extract _ _ _ _ (by omega)]
           congr 1
           omega
          rw [e] at h
          exact h
         ·simp [intOf]
          omega
     ·have q4 : ((V0 : Int) / 64 != 2) = true := by simp; omega
      have hp : partErr r = 70 := by rw [partErr_is HPE.out.1 HPE.out.2.1 HPE.out.2.2 (by omega)]; rw [if_pos (by omega)]
      have HE := Aside0.mk (splitP_bad h1 h0 (hBe.out.bad (by omega) (by rw [hp]; decide)))
      have HE2 := Aside0.mk hp
      clear hp
      go_wp2_with fail
      go_ret2
      exact ⟨_, by rw [HE.out, HE2.out]; rfl, by rw [HE.out]; exact RowV.nil _ _ _ _, HBw.out⟩
  ·have hae : a = s.size := by omega
   have q1 : decide ((a : Int) < (s.size : Int)) = false := decide_eq_false (by omega)
   have HE := Aside0.mk (splitP_ok h1 h0 (hBe.out.done (by rw [hae]; simp)))
   go_wp2_with fail
   go_ret2
   exact ⟨u4, by rw [HE.out]; rfl, by rw [HE.out]; exact hR.out, hB.out⟩
end Go.Proofs.Ytgakmnholegbgaa.B
end
section
namespace Go.Proofs.Ytgakmnholegbgaa.B
open Go.RowKit Go.Proofs.YtgakmnholegbgaaW.PrintWords Go.Proofs.YtgakmnholegbgaaW.PrintLast Go.Proofs.YtgakmnholegbgaaW.PrintMore
set_option linter.unusedVariables false
set_option linter.unusedSimpArgs false
section
variable {P : Program} (w : World)
theorem row_append_none_step {o : Oper} {a : Act} {K : Act → World → Prop} {Q : Exit → Act → World → Prop} (s x : Operand) (t : TypeId)
  (ho : o.op = .call { callee := .builtin .append, args := #[s, x], argTypes := #[t, t] })
  (e : TypeId) (i : TypeInfo) (ht : P.underlying t = some (.slice e)) (hi : P.info? e = some i)
  (A B : Option Addr) (n c c2 : Nat) (hs : a.eval s = .slice A n c) (hx : a.eval x = .slice B 0 c2) (hn : n ≤ c)
  (h : K (a.put o.dst (.slice A n c)) w) : o.wp P a w K Q := by
 have hr : (Builtin.append_ #[t, t] o.type #[.slice A n c, .slice B 0 c2]).run P w = .ok (.slice A n c) w := by
  have hf : (Builtin.firstCells i.size 0 (.slice B 0 c2)).run P w = .ok #[] w := by
   cases B <;> simp [Builtin.firstCells, loadCells, loadCellsFrom]
  cases A <;> simp [Builtin.append_, run_underlying ht, sizeOf, typeInfo, hi, Builtin.lenOf, hn, hf, storeCells]
 unfold Oper.wp execOp
 simp only [ho, resolve, invoke, builtin, Sem.run_bind, Sem.run_pure, Result.andThen_ok, List.map_toArray, List.map_cons, List.map_nil, hs, hx, hr]
 exact h
theorem row_append_any {o : Oper} {a : Act} {K : Act → World → Prop} {Q : Exit → Act → World → Prop} (s x : Operand) (t : TypeId)
  (ho : o.op = .call { callee := .builtin .append, args := #[s, x], argTypes := #[t, t] })
  (e : TypeId) (i : TypeInfo) (z : Value) (size bytes : Nat) (ht : P.underlying t = some (.slice e)) (hi : P.info? e = some i) (hz : i.zero = some z)
  (hsize : i.size = size) (hby : i.bytes = bytes) (hzs : z.cells.size = size) (hsz : 0 < size)
  (base : Nat) (v : Value) (n : Nat) (olds : List Value) (hs : a.eval s = v) (HR : RowV w base e size v n olds)
  (base2 : Nat) (vN : Value) (m : Nat) (news : List Value) (hx : a.eval x = vN) (HN : RowV w base2 e size vN m news) (h1 : ∀ u ∈ news, u.oneCell' = true)
  (h63 : n + m ≤ maxLen) (hbytes : (n + m) * bytes ≤ 140737488355328) (hbase : base ≤ w.heap.size)
  (h : ∀ v' w', RowV w' base e size v' (n + m) (olds ++ news) → w.grownBy w' v.ownBlock → (∃ A c, v' = .slice A (n + m) c) → K (a.put o.dst v') w') : o.wp P a w K Q := by
 obtain ⟨A, c, hv, hnc, _⟩ := HR.form
 have none_ : ∀ B c2, vN = .slice B 0 c2 → m = 0 → news = [] → o.wp P a w K Q := by
  intro B c2 hv2 hm hnw
  refine row_append_none_step w s x t ho e i ht hi A B n c c2 (hs.trans hv) (hx.trans hv2) hnc ?_
  have := h v w (by rw [hm, hnw, List.append_nil]; exact HR) (World.grownBy.refl w _) ⟨A, c, by rw [hm]; exact hv⟩
  rw [hv] at this
  exact this
 obtain ⟨hl, ⟨hv2, hm⟩ | ⟨g, off, cap, hv2, hb, hsh, hn2, hc2, hx2, hr2⟩⟩ := HN
 ·exact none_ _ _ hv2 hm (List.eq_nil_of_length_eq_zero (by rw [hl, hm, Nat.zero_mul]))
 ·by_cases hm : m = 0
  ·exact none_ _ _ (by rw [hv2, hm]) hm (List.eq_nil_of_length_eq_zero (by rw [hl, hm, Nat.zero_mul]))
  ·refine row_append_step w s x t ho e i z size bytes ht hi hz hsize hby hzs hsz base v n olds hs HR ⟨g, off, none⟩ m cap news (hx.trans hv2) hl (fun j u hj => by rw [Addr.add_lit]; exact hx2 j u hj) h1 h63 hbytes hbase ?_
   intro v' w' hR hG _ _
   obtain ⟨A', c', hv', _⟩ := hR.form
   exact h v' w' hR hG ⟨A', c', hv'⟩
end
theorem repV_one (l : List R5) : ∀ u ∈ repV l, u.oneCell' = true := by
 intro u hu
 simp only [repV, List.mem_flatMap] at hu
 obtain ⟨x, _, hx⟩ := hu
 simp only [repC, List.mem_cons, List.not_mem_nil, or_false] at hx
 rcases hx with rfl | rfl | rfl | rfl | rfl <;> rfl
section
variable {w0 w w' w6 : World} {g4 g8 : Nat} {vR vA vP v1 : Value} {l : List P3} {a : Fd}
end
end Go.Proofs.Ytgakmnholegbgaa.B
end
section
namespace Go.Proofs.Ytgakmnholegbgaa.B
open Go.RowKit Go.Proofs.YtgakmnholegbgaaW.PrintWords
abbrev tx (L : List UInt8) : ByteArray := ⟨L.toArray⟩
theorem tx_size (L : List UInt8) : (tx L).size = L.length := by show L.toArray.size = _; simp
theorem tx_of (s : ByteArray) : tx s.data.toList = s := by cases s; simp [tx]
theorem byteN_tx (L : List UInt8) (i : Nat) : byteN (tx L) i = (L.getD i 0).toNat := by
 unfold byteN bt
 simp only [Int.toNat_natCast, tx_size]
 by_cases h : i < L.length
 ·rw [dif_pos h]
  have : (tx L)[i]'(by rw [tx_size]; exact h) = L[i] := by
   show L.toArray[i] = _
   simp
  rw [this, List.getD_eq_getElem?_getD, List.getElem?_eq_getElem h]
  simp
 ·rw [dif_neg h, List.getD_eq_getElem?_getD, List.getElem?_eq_none (by omega)]
  rfl
theorem tx_extract (L : List UInt8) (a b : Nat) : (tx L).extract a b = tx ((L.take b).drop a) := by
 apply ByteArray.ext
 rw [ByteArray.data_extract]
 show L.toArray.extract a b = _
 apply Array.ext'
 simp [List.drop_take]
theorem u8_nat (n : Nat) (h : n < 256) : (UInt8.ofNat n).toNat = n := by rw [UInt8.toNat_ofNat']; omega
theorem part_first (c t n : Nat) (B P T : List UInt8) (hc : c < 32) (ht1 : 192 ≤ t) (ht2 : t ≤ 223) (hn : n ≤ 65535) (hB : B.length + P.length = 4 * n) (p : Nat) (hp : p ≤ 1) (h0 : p = 0 → P = [])
  (h1 : p = 1 → T = [] ∧ 4 ≤ P.length ∧ P.length % 4 = 0 ∧ P.length < 256 ∧ P.getD (P.length - 1) 0 = UInt8.ofNat P.length) :
  partErr (tx (UInt8.ofNat (128 + 32 * p + c) :: UInt8.ofNat t :: UInt8.ofNat (n / 256) :: UInt8.ofNat (n % 256) :: (B ++ P ++ T))) = 0 ∧
   partOf (tx (UInt8.ofNat (128 + 32 * p + c) :: UInt8.ofNat t :: UInt8.ofNat (n / 256) :: UInt8.ofNat (n % 256) :: (B ++ P ++ T))) = ((c : Int), (t : Int), tx B) ∧
   restOf (tx (UInt8.ofNat (128 + 32 * p + c) :: UInt8.ofNat t :: UInt8.ofNat (n / 256) :: UInt8.ofNat (n % 256) :: (B ++ P ++ T))) = tx T ∧
   partSize (tx (UInt8.ofNat (128 + 32 * p + c) :: UInt8.ofNat t :: UInt8.ofNat (n / 256) :: UInt8.ofNat (n % 256) :: (B ++ P ++ T))) = 4 + 4 * n := by
 obtain ⟨L, hL⟩ : ∃ L, L = UInt8.ofNat (128 + 32 * p + c) :: UInt8.ofNat t :: UInt8.ofNat (n / 256) :: UInt8.ofNat (n % 256) :: (B ++ P ++ T) := ⟨_, rfl⟩
 rw [← hL]
 have e0 : byteN (tx L) 0 = 128 + 32 * p + c := by rw [byteN_tx, hL]; exact u8_nat _ (by omega)
 have e1 : byteN (tx L) 1 = t := by rw [byteN_tx, hL]; exact u8_nat _ (by omega)
 have e2 : byteN (tx L) 2 = n / 256 := by rw [byteN_tx, hL]; exact u8_nat _ (by omega)
 have e3 : byteN (tx L) 3 = n % 256 := by rw [byteN_tx, hL]; exact u8_nat _ (by omega)
 have hlen : L.length = 4 + 4 * n + T.length := by
  rw [hL]
  simp only [List.length_cons, List.length_append]
  omega
 have hps : partSize (tx L) = 4 + 4 * n := by unfold partSize; rw [e2, e3]; omega
 have hsz := tx_size L
 obtain ⟨S, hS⟩ : ∃ S, S = (tx L).size := ⟨_, rfl⟩
 rw [← hS] at hsz
 have hpad : p = 1 → padN (tx L) = P.length := by
  intro hp1
  obtain ⟨_, q2, _, q4, q5⟩ := h1 hp1
  unfold padN
  rw [hps, if_pos (by omega), byteN_tx, hL]
  have e : 4 + 4 * n - 1 = (B.length + (P.length - 1)) + 1 + 1 + 1 + 1 := by omega
  rw [e]
  simp only [List.getD_cons_succ]
  rw [List.getD_eq_getElem?_getD, List.append_assoc, List.getElem?_append_right (by omega), Nat.add_sub_cancel_left, List.getElem?_append_left (by omega), ← List.getD_eq_getElem?_getD, q5]
  exact u8_nat _ q4
 refine ⟨?_, ?_, ?_, hps⟩
 ·unfold partErr
  rw [hps, e0, e1, ← hS, if_neg (by omega), if_neg (by omega), if_neg (by omega), if_neg (by omega), if_neg]
  rintro ⟨z1, z2⟩
  have hp1 : p = 1 := by omega
  obtain ⟨q1, q2, q3, q4, q5⟩ := h1 hp1
  rw [hpad hp1] at z2
  have : T.length = 0 := by rw [q1]; rfl
  exact z2 ⟨by omega, q2, q3, by omega⟩
 ·unfold partOf
  rw [e0, e1]
  have hb : partBody (tx L) = tx B := by
   unfold partBody
   rw [hps, e0]
   have key : (if (128 + 32 * p + c) / 32 % 2 = 1 then 4 + 4 * n - padN (tx L) else 4 + 4 * n) = 4 + B.length := by
    by_cases hp1 : p = 1
    ·rw [if_pos (by omega), hpad hp1]
     omega
    ·have hp0 : p = 0 := by omega
     rw [if_neg (by omega), ← hB, h0 hp0]
     simp
   rw [key, tx_extract, hL]
   have e : 4 + B.length = B.length + 1 + 1 + 1 + 1 := by omega
   rw [e]
   simp only [List.take_succ_cons, List.drop_succ_cons, List.drop_zero]
   rw [List.append_assoc, List.take_left']
   rfl
  rw [hb]
  refine Prod.ext ?_ (Prod.ext rfl rfl)
  show (((128 + 32 * p + c) % 32 : Nat) : Int) = c
  omega
 ·unfold restOf
  rw [hps, ← hS, hsz, tx_extract, List.take_length, hL]
  have e : 4 + 4 * n = (B ++ P).length + 1 + 1 + 1 + 1 := by rw [List.length_append]; omega
  rw [e]
  simp only [List.drop_succ_cons]
  rw [List.drop_left']
  rfl
theorem part_ok (x : P3) (T : List UInt8) (h : partOk x = true) : partErr (tx (partBytes x ++ T)) = 0 ∧ partOf (tx (partBytes x ++ T)) = x ∧ restOf (tx (partBytes x ++ T)) = tx T := by
 obtain ⟨x1, x2, x3⟩ := x
 obtain ⟨a1, a2, a3, a4, a5, a6⟩ := (partOk_iff _).1 h
 dsimp only at a1 a2 a3 a4 a5 a6
 obtain ⟨c, rfl⟩ := Int.eq_ofNat_of_zero_le a1
 obtain ⟨t, rfl⟩ := Int.eq_ofNat_of_zero_le (show 0 ≤ x2 by omega)
 have hl : x3.data.toList.length = x3.size := by simp
 have := part_first c t (x3.size / 4) x3.data.toList [] T (by omega) (by omega) (by omega) (by omega) (by rw [hl, List.length_nil]; omega) 0 (by omega) (fun _ => rfl) (fun h => by omega)
 rw [List.append_nil, tx_of] at this
 have e : partBytes (((c : Int), (t : Int), x3) : P3) ++ T = UInt8.ofNat (128 + 32 * 0 + c) :: UInt8.ofNat t :: UInt8.ofNat (x3.size / 4 / 256) :: UInt8.ofNat (x3.size / 4 % 256) :: (x3.data.toList ++ T) := rfl
 rw [e]
 exact ⟨this.1, this.2.1, this.2.2.1⟩
theorem splitR_part (x : P3) (T : List UInt8) (h : partOk x = true) : splitR (tx (partBytes x ++ T)) = (splitR (tx T)).map (x :: ·) := by
 obtain ⟨h1, h2, h3⟩ := part_ok x T h
 rw [splitR_go _ h1, h2, h3]
 rw [tx_size, List.length_append, partBytes_length]
 simp only [sizeP]
 omega
theorem splitR_all (l : List P3) (T : List UInt8) (h : ∀ x ∈ l, partOk x = true) : splitR (tx (allBytes l ++ T)) = (splitR (tx T)).map (l ++ ·) := by
 induction l with
 | nil =>
  simp only [allBytes, List.flatMap_nil, List.nil_append]
  cases splitR (tx T) <;> rfl
 | cons x l ih =>
  have e : allBytes (x :: l) ++ T = partBytes x ++ (allBytes l ++ T) := by simp [allBytes]
  rw [e, splitR_part x _ (h x List.mem_cons_self), ih (fun y hy => h y (List.mem_cons_of_mem _ hy))]
  cases splitR (tx T) <;> rfl
theorem splitR_empty : splitR (tx []) = .ok [] := splitR_nil rfl
theorem split_join (l : List P3) (t : ByteArray) (h : joinP l = (t, 0)) : splitP t = (l, 0) ∧ t = tx (allBytes l) ∧ (∀ x ∈ l, partOk x = true) ∧ l ≠ [] ∧ total l ≤ 65536 := by
 unfold joinP at h
 split at h
 ·cases h
 ·rename_i h0
  split at h
  ·cases h
  ·rename_i h1
   split at h
   ·cases h
   ·rename_i h2
    have ht : t = tx (allBytes l) := (congrArg Prod.fst h).symm
    have hok : ∀ x ∈ l, partOk x = true := List.all_eq_true.1 (by simpa using h1)
    have hsz : t.size = total l := by rw [ht, tx_size, allBytes_length]
    have hpos : 0 < total l := by
     cases l with
     | nil => exact absurd rfl h0
     | cons x m => rw [total_cons]; simp only [sizeP]; omega
    refine ⟨splitP_ok (by omega) (by omega) ?_, ht, hok, h0, by omega⟩
    have := splitR_all l [] hok
    rw [List.append_nil, splitR_empty] at this
    rw [ht, this]
    show Except.ok _ = Except.ok _
    simp
theorem partOf_ok {s : ByteArray} (h : partErr s = 0) : partOk (partOf s) = true ∧ sizeP (partOf s) ≤ partSize s ∧ partSize s ≤ s.size ∧
  (sizeP (partOf s) = partSize s ∨ (partSize s = s.size ∧ partSize s ≤ sizeP (partOf s) + 255 ∧ sizeP (partOf s) < partSize s)) := by
 obtain ⟨hs, _⟩ := partErr_size h
 have b0 := byteN_lt s 0
 have b1 := byteN_lt s 1
 have b2 := byteN_lt s 2
 have b3 := byteN_lt s 3
 have hp : partSize s = 4 + 4 * (byteN s 2 * 256 + byteN s 3) := rfl
 obtain ⟨V0, hV0⟩ : ∃ V, V = byteN s 0 := ⟨_, rfl⟩
 obtain ⟨V1, hV1⟩ : ∃ V, V = byteN s 1 := ⟨_, rfl⟩
 obtain ⟨W, hW⟩ : ∃ V, V = byteN s 2 * 256 + byteN s 3 := ⟨_, rfl⟩
 have hWl : W ≤ 65535 := by omega
 rw [← hW] at hp
 obtain ⟨Q, hQ⟩ : ∃ V, V = padN s := ⟨_, rfl⟩
 have hQl : Q < 256 := by
  rw [hQ]
  unfold padN
  split
  ·exact byteN_lt _ _
  ·omega
 unfold partErr at h
 rw [← hV0, ← hV1, ← hQ, hp] at h
 have hbs : (partBody s).size = (if V0 / 32 % 2 = 1 then 4 + 4 * W - Q else 4 + 4 * W) - 4 := by
  unfold partBody
  rw [← hV0, hp, ← hQ, ByteArray.size_extract]
  split <;> omega
 have hof : partOf s = (((V0 % 32 : Nat) : Int), ((V1 : Nat) : Int), partBody s) := by unfold partOf; rw [hV0, hV1]
 rw [hof, hp]
 simp only [sizeP, partOk_iff]
 obtain ⟨Z, hZ⟩ : ∃ Z, Z = (partBody s).size := ⟨_, rfl⟩
 rw [← hZ] at hbs ⊢
 rw [hp] at hs
 obtain ⟨S, hS⟩ : ∃ S, S = s.size := ⟨_, rfl⟩
 rw [← hS] at h hs ⊢
 clear hZ hS hof hp hQ hV0 hV1 hW b0 b1 b2 b3
 split at h
 ·cases h
 split at h
 ·cases h
 split at h
 ·cases h
 split at h
 ·cases h
 split at h
 ·cases h
 rename_i c1 c2 c3 c4 c5
 by_cases hpd : V0 / 32 % 2 = 1
 ·have c6 : 4 + 4 * W = S ∧ 4 ≤ Q ∧ Q % 4 = 0 ∧ Q ≤ 4 + 4 * W - 4 := Classical.byContradiction fun hh => c5 ⟨hpd, hh⟩
  rw [if_pos hpd] at hbs
  omega
 ·rw [if_neg hpd] at hbs
  omega
theorem splitR_ok : ∀ (n : Nat) (s : ByteArray) (l : List P3), s.size = n → splitR s = .ok l → (∀ x ∈ l, partOk x = true) ∧ total l ≤ s.size ∧ s.size ≤ total l + 255 ∧ (l = [] → s.size = 0) := by
 intro n
 induction n using Nat.strongRecOn with
 | _ n ih =>
  intro s l hn h
  by_cases h0 : s.size = 0
  ·rw [splitR_nil h0] at h
   injection h with h
   subst h
   exact ⟨fun x hx => by simp at hx, by simp [total], by omega, fun _ => h0⟩
  ·by_cases he : partErr s = 0
   ·rw [splitR_go h0 he] at h
    obtain ⟨p1, p2, p3, p4⟩ := partOf_ok he
    have hg := partSize_ge s
    have hr := restOf_size s
    cases hm : splitR (restOf s) with
    | error e => rw [hm] at h; cases h
    | ok m =>
     rw [hm] at h
     have hl : l = partOf s :: m := by injection h with h; exact h.symm
     subst hl
     obtain ⟨i1, i2, i3, i4⟩ := ih _ (by omega) (restOf s) m rfl hm
     refine ⟨?_, ?_, ?_, fun hh => by cases hh⟩
     ·intro x hx
      rcases List.mem_cons.1 hx with rfl | hx
      ·exact p1
      ·exact i1 x hx
     ·rw [total_cons]; omega
     ·rw [total_cons]
      rcases p4 with p4 | ⟨p4, p5, p6⟩
      ·omega
      ·have hz : (restOf s).size = 0 := by omega
       have hm0 : m = [] := by
        rw [splitR_nil hz] at hm
        injection hm with hm
        exact hm.symm
       subst hm0
       simp only [total_nil]
       omega
   ·rw [splitR_bad h0 he] at h
    cases h
theorem splitR_err : ∀ (n : Nat) (s : ByteArray), s.size = n → splitR s = .error 0 → False := by
 intro n
 induction n using Nat.strongRecOn with
 | _ n ih =>
  intro s hn h
  by_cases h0 : s.size = 0
  ·rw [splitR_nil h0] at h
   cases h
  ·by_cases he : partErr s = 0
   ·rw [splitR_go h0 he] at h
    obtain ⟨p1, p2, p3, p4⟩ := partOf_ok he
    have hg := partSize_ge s
    have hr := restOf_size s
    cases hm : splitR (restOf s) with
    | error e =>
     rw [hm] at h
     have : e = 0 := by injection h
     subst this
     exact ih _ (by omega) (restOf s) rfl hm
    | ok m => rw [hm] at h; cases h
   ·rw [splitR_bad h0 he] at h
    injection h with h
    exact he h
theorem splitP_inv {s : ByteArray} {l : List P3} (h : splitP s = (l, 0)) : s.size ≤ 65536 ∧ ¬ s.size = 0 ∧ splitR s = .ok l := by
 unfold splitP at h
 split at h
 ·injection h with _ h; cases h
 split at h
 ·injection h with _ h; cases h
 refine ⟨by omega, by assumption, ?_⟩
 cases hr : splitR s with
 | ok m =>
  rw [hr] at h
  injection h with h
  rw [h]
 | error e =>
  rw [hr] at h
  dsimp only at h
  injection h with h1 h2
  subst h2
  exact (splitR_err _ s rfl hr).elim
theorem splitP_fst {s : ByteArray} (h : (splitP s).2 ≠ 0) : (splitP s).1 = [] := by
 by_cases h1 : 65536 < s.size
 ·rw [splitP_long h1]
 by_cases h2 : s.size = 0
 ·rw [splitP_none h2]
 cases hr : splitR s with
 | ok m => rw [splitP_ok (by omega) h2 hr] at h; exact absurd rfl h
 | error e => rw [splitP_bad (by omega) h2 hr]
end Go.Proofs.Ytgakmnholegbgaa.B
end
section
namespace Go.Proofs.Ytgakmnholegbgaa.B
open Go.RowKit Go.Proofs.YtgakmnholegbgaaW.PrintWords Go.Proofs.YtgakmnholegbgaaW.PrintLast Go.Proofs.YtgakmnholegbgaaW.PrintMore
set_option linter.unusedVariables false
set_option linter.unusedSimpArgs false
theorem split_total (s : ByteArray) : total (splitP s).1 ≤ 65536 := by
 by_cases h : (splitP s).2 = 0
 ·obtain ⟨h1, h2, h3⟩ := splitP_inv (l := (splitP s).1) (by rw [← h])
  obtain ⟨_, h4, _⟩ := splitR_ok _ s _ rfl h3
  omega
 ·rw [splitP_fst h]
  simp [total]
theorem split_lenF (s : ByteArray) : (splitP s).1.length ≤ 65536 := by
 have h := split_total s
 have := sumB_total (splitP s).1
 omega
theorem mem_total {l : List P3} {x : P3} (h : x ∈ l) : sizeP x ≤ total l := by
 induction l with
 | nil => simp at h
 | cons y l ih =>
  rw [total_cons]
  rcases List.mem_cons.1 h with rfl | h
  ·omega
  ·have := ih h
   omega
theorem split_sizes (s : ByteArray) : ∀ x ∈ (splitP s).1, x.2.2.size ≤ 1000000 := fun x hx => by
 have h := mem_total hx
 have h2 := split_total s
 unfold sizeP at h
 omega
theorem rsplit_anyF (s : ByteArray) (w : World) (h : s.size ≤ 1000000) : Calls Try.prog 12 #[.string s] w (SplitPost s w) := by
 by_cases h1 : 65536 < s.size
 ·have d1 : decide (65536 < (s.size : Int)) = true := decide_eq_true (by omega)
  have HE := Aside0.mk (splitP_long h1)
  go_enter Try.func12, Try.ntmps12
  go_wp2_with fail
  go_ret2
  exact ⟨_, by rw [HE.out]; rfl, by rw [HE.out]; exact RowV.nil _ _ _ _, Below.refl _ _⟩
 ·by_cases h2 : s.size = 0
  ·have HE := Aside0.mk (splitP_none h2)
   have d1 : decide (65536 < (s.size : Int)) = false := decide_eq_false (by omega)
   have d2 : s.toList.isEmpty = true := by rw [str_empty_]; exact decide_eq_true h2
   go_enter Try.func12, Try.ntmps12
   go_wp2_with fail
   go_ret2
   exact ⟨_, by rw [HE.out]; rfl, by rw [HE.out]; exact RowV.nil _ _ _ _, Below.refl _ _⟩
  ·exact rsplit_some s w h2 (by omega)
theorem read_any_F (s : ByteArray) (near : Int) (w : World) (hs : s.size ≤ 1000000) (hn : I64 near) : Calls Try.prog 8 #[.string s, .int .i64 near] w (FeedPost s near w) := read_any_ s near w hs hn (split_sizes s) (split_lenF s)
end Go.Proofs.Ytgakmnholegbgaa.B
end
section
namespace Go.Proofs.Ytgakmnholegbgaa.B
open Go.RowKit Go.Proofs.YtgakmnholegbgaaW.PrintWords Go.Proofs.YtgakmnholegbgaaW.PrintLast Go.Proofs.YtgakmnholegbgaaW.PrintMore
set_option linter.unusedVariables false
set_option linter.unusedSimpArgs false
theorem repV_get {l : List R5} {i : Nat} {x : R5} (h : l[i]? = some x) : (repV l)[i * 5]? = some (.int .i64 x.1) ∧ (repV l)[i * 5 + 1]? = some (.bool x.2.1) ∧ (repV l)[i * 5 + 2]? = some (.int .i64 x.2.2.1) ∧ (repV l)[i * 5 + 3]? = some (.bool x.2.2.2.1) ∧ (repV l)[i * 5 + 4]? = some (.bool x.2.2.2.2) := by
 obtain ⟨hi, rfl⟩ := List.getElem?_eq_some_iff.1 h
 have e : repV l = repV (l.take i) ++ (repC l[i] ++ repV (l.drop (i + 1))) := by
  conv => lhs; rw [← List.take_append_drop i l, List.drop_eq_getElem_cons hi]
  rw [repV_append]
  rfl
 have hl : (repV (l.take i)).length = i * 5 := by rw [repV_length, List.length_take, Nat.min_eq_left (Nat.le_of_lt hi)]
 refine ⟨?_, ?_, ?_, ?_, ?_⟩ <;> rw [e, List.getElem?_append_right (by omega), hl]
 ·rw [Nat.sub_self]; rfl
 all_goals (rw [Nat.add_sub_cancel_left]; rfl)
set_option maxHeartbeats 4000000 in
theorem reports_same (w : World) (b1 b2 : Nat) (v1 v2 : Value) (l : List R5) (h1 : RowV w b1 58 5 v1 l.length (repV l)) (h2 : RowV w b2 58 5 v2 l.length (repV l)) : Calls Try.prog 10 #[v1, v2] w fun e w' => e = .returned (.bool true) ∧ Below w.heap.size w w' := by
 obtain ⟨A1, c1, rfl, -, hc1⟩ := h1.form
 obtain ⟨A2, c2, rfl, -, hc2⟩ := h2.form
 have hlm : l.length ≤ 9223372036854775807 := by
  obtain ⟨_, _, _, h3, h4⟩ := h1.form
  unfold maxLen at h4
  omega
 have H1 := Aside0.mk h1
 have H2 := Aside0.mk h2
 clear h1 h2 hc1 hc2
 go_enter Try.func10, Try.ntmps10
 go_wp2_with fail
 go_loopw [5, 6, 7] (fun v5 _ _ wr => ∃ i : Nat, v5 = .int .i64 i ∧ i ≤ l.length ∧ Aside0 (Below w.heap.size w wr)) (fun v _ _ _ => l.length - (intOf v).toNat)
 case atStart => exact ⟨0, rfl, by omega, ⟨Below.refl _ _⟩⟩
 case round =>
  obtain ⟨i, rfl, hi, HB⟩ := hrel
  by_cases hlt : i < l.length
  ·have q4 : decide ((i : Int) < (l.length : Int)) = true := decide_eq_true (by omega)
   obtain ⟨x, hx⟩ : ∃ x, l[i]? = some x := ⟨l[i]'hlt, List.getElem?_eq_getElem hlt⟩
   obtain ⟨a1, o1, _, e_, _, _, _, hx1⟩ := (H1.out.below HB.out).some_ (by omega)
   injection e_ with e_ _ e2_
   subst e_
   subst e2_
   obtain ⟨a2, o2, _, e_, _, _, _, hx2⟩ := (H2.out.below HB.out).some_ (by omega)
   injection e_ with e_ _ e2_
   subst e_
   subst e2_
   obtain ⟨g0, g1, g2, g3, g4⟩ := repV_get hx
   have p0 := hx1 _ _ g0
   have p1 := hx1 _ _ g1
   have p2 := hx1 _ _ g2
   have p3 := hx1 _ _ g3
   have p4 := hx1 _ _ g4
   have s0 := hx2 _ _ g0
   have s1 := hx2 _ _ g1
   have s2 := hx2 _ _ g2
   have s3 := hx2 _ _ g3
   have s4 := hx2 _ _ g4
   rw [← Nat.add_assoc] at p1 p2 p3 p4 s1 s2 s3 s4
   obtain ⟨y0, y1, y2, y3, y4⟩ := x
   have l1 := ((H1.out.below HB.out).lt (k := a1) rfl).1
   have l2 := ((H2.out.below HB.out).lt (k := a2) rfl).1
   have i0 : (0 : Int) ≤ (i : Int) := by omega
   have i1 : (i : Int) < (l.length : Int) := by omega
   dsimp only at p0 p1 p2 p3 p4 s0 s1 s2 s3 s4
   clear hx1 hx2 g0 g1 g2 g3 g4 hx
   go_wp2_with fail
   have n0 : (y0 != y0) = false := by simp
   have n1 : (y1 != y1) = false := by simp
   have n2 : (y2 != y2) = false := by simp
   have n3 : (y3 != y3) = false := by simp
   have n4 : (y4 != y4) = false := by simp
   go_region
   all_goals
    clear p0 p1 p2 p3 p4 s0 s1 s2 s3 s4
    go_wp2_with fail
    exact ⟨⟨i + 1, by simp, by omega, ⟨((HB.out.alloc HB.out.size _).alloc (by have := HB.out.size; simp; omega) _).drew⟩⟩, by simp [intOf]; omega⟩
  ·have q4 : decide ((i : Int) < (l.length : Int)) = false := decide_eq_false (by omega)
   go_wp2_with fail
   go_ret
   exact ⟨rfl, HB.out⟩
set_option maxHeartbeats 4000000 in
theorem ints_same (w : World) (b1 b2 : Nat) (v1 v2 : Value) (l : List Int) (h1 : RowV w b1 3 1 v1 l.length (iV l)) (h2 : RowV w b2 3 1 v2 l.length (iV l)) : Calls Try.prog 11 #[v1, v2] w fun e w' => e = .returned (.bool true) ∧ Below w.heap.size w w' := by
 obtain ⟨A1, c1, rfl, -, hc1⟩ := h1.form
 obtain ⟨A2, c2, rfl, -, hc2⟩ := h2.form
 have hlm : l.length ≤ 9223372036854775807 := by
  obtain ⟨_, _, _, h3, h4⟩ := h1.form
  unfold maxLen at h4
  omega
 have H1 := Aside0.mk h1
 have H2 := Aside0.mk h2
 clear h1 h2 hc1 hc2
 go_enter Try.func11, Try.ntmps11
 go_wp2_with fail
 go_loopw [5] (fun v5 wr => ∃ i : Nat, v5 = .int .i64 i ∧ i ≤ l.length ∧ Aside0 (Below w.heap.size w wr)) (fun v _ => l.length - (intOf v).toNat)
 case atStart => exact ⟨0, rfl, by omega, ⟨Below.refl _ _⟩⟩
 case round =>
  obtain ⟨i, rfl, hi, HB⟩ := hrel
  by_cases hlt : i < l.length
  ·have q4 : decide ((i : Int) < (l.length : Int)) = true := decide_eq_true (by omega)
   obtain ⟨x, hx⟩ : ∃ x, l[i]? = some x := ⟨l[i]'hlt, List.getElem?_eq_getElem hlt⟩
   obtain ⟨a1, o1, _, e_, _, _, _, hx1⟩ := (H1.out.below HB.out).some_ (by omega)
   injection e_ with e_ _ e2_
   subst e_
   subst e2_
   obtain ⟨a2, o2, _, e_, _, _, _, hx2⟩ := (H2.out.below HB.out).some_ (by omega)
   injection e_ with e_ _ e2_
   subst e_
   subst e2_
   have p0 := hx1 i (.int .i64 x) (by simp [iV, hx])
   have s0 := hx2 i (.int .i64 x) (by simp [iV, hx])
   have i0 : (0 : Int) ≤ (i : Int) := by omega
   have i1 : (i : Int) < (l.length : Int) := by omega
   have n0 : (x != x) = false := by simp
   clear hx1 hx2 hx
   go_wp2_with fail
   go_region
   all_goals
    clear p0 s0
    go_wp2_with fail
    exact ⟨⟨i + 1, by simp, by omega, ⟨HB.out.drew⟩⟩, by simp [intOf]; omega⟩
  ·have q4 : decide ((i : Int) < (l.length : Int)) = false := decide_eq_false (by omega)
   go_wp2_with fail
   go_ret
   exact ⟨rfl, HB.out⟩
end Go.Proofs.Ytgakmnholegbgaa.B
end
