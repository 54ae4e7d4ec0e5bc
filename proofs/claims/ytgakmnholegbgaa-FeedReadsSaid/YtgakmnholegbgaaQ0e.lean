/- What the law leans on, part 5 of 6: plain laws and walks of this session, and words that a tool of the kit printed for it; what nothing leans on is left out. -/
import Derived.Test.YtgakmnholegbgaaRows
import Derived.Test.YtgakmnholegbgaaProg
import Derived.Below
import Derived.Deep.Draws
import Derived.Deep.AppendLies
import Derived.Maps.AppendAt
import Derived.OwnWalk
import Derived.Laws.BytesArg
import Derived.Laws.MakeOwn
import Derived.Laws.OwnMore
import Derived.Deep.OwnRows
import Derived.Tactics
import Derived.Lib.ConvBytes
import Derived.Laws.Slices
import Derived.WalkKit
import Derived.KernelRfl
import Derived.RowKit3
import Derived.Deep.LoopGhost
import Derived.Deep.QuietTactic
import Derived.BigQuiet
import Derived.WideLaws
import Derived.Deep.DeepCutAuto
import Derived.Deep.CutBlock
import Derived.Deep.RegionHeld3
import Derived.Laws.Rows
import Derived.Lib.AppendStr
import Derived.ArgAppend
import Derived.Laws.IdiomCopy
import Derived.OrdersHeld
import Derived.Laws.BitsLemmas
import Derived.RowKit
import Derived.Laws.StructEq
import Derived.BigRegion
import Derived.WalkMore
import Derived.ScopeJumps
import Derived.Outline
import Derived.Laws.Externs
import Derived.Lib.BitFns
import Derived.Deep.Light
import Derived.Lib.Mul64
import Derived.Lib.Strings
import Derived.Lib.Slices
import Derived.Lib.Small
import Derived.Lib.Walk
import Derived.Laws.Bits64b
import Derived.Lib.UnsafeStr
import Derived.Deep.RegionLaw
import Derived.Deep.RegionWith
import Derived.StillTailTactics
import Derived.Defers
import Derived.Recover
import Derived.Laws.Pointers
import Derived.WalkLawsBesides
import Derived.Laws.DeepStrings4
import Derived.Lib.SmallJoins
import Derived.Deep.Slices
import Derived.Deep.Fields
import Derived.ChangeSame
import Derived.ProofKit
import Derived.OpenShut
import Derived.ShutString
import Derived.ChangeOld
import Derived.SizedLaws
import Derived.Test.YtgakmnholegbgaaQ0d
section
namespace Go.Proofs.Ytgakmnholegbgaa.B
open Go.RowKit Go.Proofs.YtgakmnholegbgaaW.PrintWords Go.Proofs.YtgakmnholegbgaaW.PrintLast Go.Proofs.YtgakmnholegbgaaW.PrintMore
set_option linter.unusedVariables false
set_option linter.unusedSimpArgs false
theorem rcc_load (g2 : Nat) (tm : Array Value) (w : World) (u0 u1 u2 x : Value) (t2 : tm[2]?.getD undef = .pointer (some ⟨g2, 0, none⟩)) (t3 : tm[3]?.getD undef = x) (h : w.heap[g2]? = some (.cells #[u0, u1, u2] 53 (0, 0))) :
  (results Try.f22 tm).run Try.prog w = .ok (.tuple #[.agg #[u0, u1, u2], x]) w := by
 have c0 := blk_cell h 0
 have c1 := blk_cell h 1
 have c2 := blk_cell h 2
 simp only [List.getElem?_toArray, List.getElem?_cons_zero, List.getElem?_cons_succ] at c0 c1 c2
 simp [results, Try.results22, go_sem, t2, t3, c0, c1, c2]
theorem CcfbPost.bad {s : ByteArray} {w w1 : World} {g2 : Nat} {e : Int} (hP : ccfbP s = ((0, [], 0), e)) (hB : Below w.heap.size w w1) (h2 : w.heap.size ≤ g2) : CcfbPost s w (.returned (.tuple #[.agg #[.int .u32 0, .slice none 0 0, .int .u32 0], .int .i64 e])) (((w1.setCell ⟨g2, 0, none⟩ (.int .u32 0)).setCell ⟨g2, 1, none⟩ (.slice none 0 0)).setCell ⟨g2, 2, none⟩ (.int .u32 0)) :=
 ⟨.slice none 0 0, [], by (rw [hP]; try rfl), BlocksV.nil _ _, by (rw [hP]; try rfl), ((hB.setCell (p := ⟨g2, 0, none⟩) h2 _).setCell (p := ⟨g2, 1, none⟩) h2 _).setCell (p := ⟨g2, 2, none⟩) h2 _⟩
structure CS (w0 w : World) (s : ByteArray) (p g2 g5 pos : Nat) (S : Int) (vB : Value) (L : List (B3 × Value)) : Prop where
 rd : RdIs w p 139 s (pos : Int) false
 k2 : w.heap[g2]? = some (.cells #[.int .u32 0, .slice none 0 0, .int .u32 0] 53 (0, 0))
 k5 : w.heap[g5]? = some (.cells #[.int .u32 S, vB, .int .u32 0] 53 (0, 0))
 bl : BlocksV w w0.heap.size vB L
 bel : Below w0.heap.size w0 w
 wp : w0.heap.size ≤ p
 w2 : w0.heap.size ≤ g2
 w5 : w0.heap.size ≤ g5
 n25 : g2 ≠ g5
section
variable {w0 w w' w6 : World} {s : ByteArray} {p g2 g5 pos pos' : Nat} {S : Int} {vB v1 vm : Value} {L : List (B3 × Value)} {b : B3}
theorem CS.step (h : CS w0 w s p g2 g5 pos S vB L) (hb : Below w.heap.size w w') : CS w0 w' s p g2 g5 pos S vB L :=
 ⟨(hb.block p (blk_lt h.rd)).trans h.rd, (hb.block g2 (blk_lt h.k2)).trans h.k2, (hb.block g5 (blk_lt h.k5)).trans h.k5, h.bl.below hb, h.bel.trans (hb.mono h.bel.size), h.wp, h.w2, h.w5, h.n25⟩
theorem CS.np2 (h : CS w0 w s p g2 g5 pos S vB L) : g2 ≠ p := fun e => by have a := h.k2; have b := h.rd; rw [e] at a; unfold RdIs at b; rw [a] at b; injection b with b; injection b with _ b; exact absurd b (by decide)
theorem CS.np5 (h : CS w0 w s p g2 g5 pos S vB L) : g5 ≠ p := fun e => by have a := h.k5; have b := h.rd; rw [e] at a; unfold RdIs at b; rw [a] at b; injection b with b; injection b with _ b; exact absurd b (by decide)
theorem CS.get (h : CS w0 w s p g2 g5 pos S vB L) (hg : w.grownBy w' (some p)) (hr : RdIs w' p 139 s (pos' : Int) false) : CS w0 w' s p g2 g5 pos' S vB L :=
 ⟨hr, gb_blk hg h.k2 (fun k hk => by injection hk with hk; subst hk; exact h.np2), gb_blk hg h.k5 (fun k hk => by injection hk with hk; subst hk; exact h.np5), h.bl.gb hg (fun k hk => by injection hk with hk; subst hk; exact ⟨_, shape_blk h.rd, by decide, by decide⟩), gb_below h.bel h.wp hg, h.wp, h.w2, h.w5, h.n25⟩
theorem CS.push (h : CS w0 w s p g2 g5 pos S vB L) (hm : RowV w w0.heap.size 45 3 vm b.2.2.length (metV b.2.2)) (hG : w.grownBy w6 vB.ownBlock) (hR : RowV w6 w0.heap.size 49 3 v1 (L.length + 1) (blkV L ++ [.int .u32 b.1, .int .i64 b.2.1, vm])) : CS w0 (w6.setCell ⟨g5, 1, none⟩ v1) s p g2 g5 pos S v1 (L ++ [(b, vm)]) := by
 have k5 := gb_blkR hG h.bl.1 h.k5 (by decide)
 have k2 := gb_blkR hG h.bl.1 h.k2 (by decide)
 have rd : RdIs w6 p 139 s (pos : Int) false := gb_blkR hG h.bl.1 h.rd (by decide)
 have e_ := blk_set k5 1 v1
 simp only [List.setIfInBounds_toArray, List.set_cons_zero, List.set_cons_succ] at e_
 exact ⟨(Below.heap_setCell w6 (⟨g5, 1, none⟩ : Addr) _ p h.np5.symm).trans rd, (Below.heap_setCell w6 (⟨g5, 1, none⟩ : Addr) _ g2 h.n25).trans k2, e_, (h.bl.push hm hG hR).setCell (p := ⟨g5, 1, none⟩) _ k5 (by decide) (by decide), (below_new h.bel hG (fun k hk => (h.bl.1.lt hk).2.1)).setCell (p := ⟨g5, 1, none⟩) h.w5 _, h.wp, h.w2, h.w5, h.n25⟩
end
def RC1 (w : World) (s : ByteArray) (p g2 g5 : Nat) (S : Int) (wr : World) : Prop := ∃ (a : Nat) (A : Option Addr) (c : Nat) (L : List (B3 × Value)), Aside0 (CS w wr s p g2 g5 a S (.slice A L.length c) L) ∧ L.length ≤ 16 ∧ a + 32 ≤ 8 * s.size ∧ Aside0 (BehindB s (L.map (·.1)) a)
def RC2 (s : ByteArray) (a p g6 n : Nat) (V F : Int) (w : World) (v8 : Value) (wr : World) : Prop := ∃ (k : Nat) (A : Option Addr) (c : Nat), v8 = .int .i64 k ∧ k ≤ n ∧ Aside0 (∀ m ∈ metrs s (a + 64) k, metrOk m = true) ∧
 Aside0 (wr.heap[g6]? = some (.cells #[.int .u32 V, .int .i64 F, .slice A k c] 49 (0, 0))) ∧
 Aside0 (RowV wr w.heap.size 45 3 (.slice A k c) k (metV (metrs s (a + 64) k))) ∧ Aside0 (RdIs wr p 139 s ((a + 64 + 16 * k : Nat) : Int) false) ∧ Aside0 (w.grownBy wr (some p))
set_option maxHeartbeats 4000000 in
theorem rccfb_short (s : ByteArray) (w : World) (hs : s.size ≤ 1000000) (h : 65536 < s.size ∨ s.size % 4 ≠ 0 ∨ s.size < 8) : Calls Try.prog 22 #[.string s] w (CcfbPost s w) := by
 have HK := Aside0.mk (blk_new w (.cells #[.int .u32 0, .slice none 0 0, .int .u32 0] 53))
 by_cases c1 : 65536 < s.size
 ·have d1 : decide (65536 < (s.size : Int)) = true := decide_eq_true (by omega)
  have HP : Aside0 (ccfbP s = ((0, [], 0), 2)) := ⟨by unfold ccfbP; rw [if_pos c1]⟩
  clear h c1
  go_enter Try.func22, Try.ntmps22
  go_wp2_with fail
  (try simp only [Exit.inBlock, Exit.then])
  refine bodyPost_ret (rcc_load w.heap.size _ _ _ _ _ _ rfl rfl HK.out) rfl ?_
  exact ⟨.slice none 0 0, [], by rw [HP.out]; rfl, BlocksV.nil _ _, by rw [HP.out]; rfl, (Below.refl _ _).alloc (Nat.le_refl _) _⟩
 have d1 : decide (65536 < (s.size : Int)) = false := decide_eq_false (by omega)
 by_cases c2 : s.size % 4 ≠ 0
 ·have d2 : (((s.size : Int) % 4) != 0) = true := by simp; omega
  have HP : Aside0 (ccfbP s = ((0, [], 0), 90)) := ⟨by unfold ccfbP; rw [if_neg c1, if_pos c2]⟩
  clear h c2
  go_enter Try.func22, Try.ntmps22
  go_wp2_with fail
  (try simp only [Exit.inBlock, Exit.then])
  refine bodyPost_ret (rcc_load w.heap.size _ _ _ _ _ _ rfl rfl HK.out) rfl ?_
  exact ⟨.slice none 0 0, [], by rw [HP.out]; rfl, BlocksV.nil _ _, by rw [HP.out]; rfl, (Below.refl _ _).alloc (Nat.le_refl _) _⟩
 have d2 : (((s.size : Int) % 4) != 0) = false := by simp; omega
 have d3 : decide ((s.size : Int) < 8) = true := decide_eq_true (by omega)
 have HP : Aside0 (ccfbP s = ((0, [], 0), 60)) := ⟨by unfold ccfbP; rw [if_neg c1, if_neg c2, if_pos (by omega)]⟩
 clear h
 go_enter Try.func22, Try.ntmps22
 go_wp2_with fail
 (try simp only [Exit.inBlock, Exit.then])
 refine bodyPost_ret (rcc_load w.heap.size _ _ _ _ _ _ rfl rfl HK.out) rfl ?_
 exact ⟨.slice none 0 0, [], by rw [HP.out]; rfl, BlocksV.nil _ _, by rw [HP.out]; rfl, (Below.refl _ _).alloc (Nat.le_refl _) _⟩
set_option maxHeartbeats 16000000 in
set_option maxRecDepth 100000 in
theorem rccfb_long (s : ByteArray) (w : World) (h1 : s.size ≤ 65536) (h2 : s.size % 4 = 0) (h3 : 8 ≤ s.size) : Calls Try.prog 22 #[.string s] w (CcfbPost s w) := by
 have d1 : decide (65536 < (s.size : Int)) = false := decide_eq_false (by omega)
 have d2 : (((s.size : Int) % 4) != 0) = false := by simp; omega
 have d3 : decide ((s.size : Int) < 8) = false := decide_eq_false (by omega)
 go_enter Try.func22, Try.ntmps22
 go_wp2_with fail
 refine (rread_any _ s).mono ?_
 rintro e w1 ⟨rfl, rfl⟩
 have K2a := Aside0.mk (blk_new w (.cells #[.int .u32 0, .slice none 0 0, .int .u32 0] 53))
 have RDa : RdIs ((w.alloc (.cells #[.int .u32 0, .slice none 0 0, .int .u32 0] 53)).alloc (.cells #[.string s, .int .i64 0, .bool false] 139)) (w.heap.size + 1) 139 s ((0 : Nat) : Int) false := by
  have h := blk_new (w.alloc (.cells #[.int .u32 0, .slice none 0 0, .int .u32 0] 53)) (.cells #[.string s, .int .i64 0, .bool false] 139)
  rw [show (w.alloc (.cells #[.int .u32 0, .slice none 0 0, .int .u32 0] 53)).heap.size = w.heap.size + 1 by simp] at h
  exact h
 have K2 : Aside0 (((w.alloc (.cells #[.int .u32 0, .slice none 0 0, .int .u32 0] 53)).alloc (.cells #[.string s, .int .i64 0, .bool false] 139)).heap[w.heap.size]? = some (.cells #[.int .u32 0, .slice none 0 0, .int .u32 0] 53 (0, 0))) := ⟨gb_blk (World.grownBy_alloc _ _ none) K2a.out (fun k hk => by cases hk)⟩
 have HB : Aside0 (Below w.heap.size w ((w.alloc (.cells #[.int .u32 0, .slice none 0 0, .int .u32 0] 53)).alloc (.cells #[.string s, .int .i64 0, .bool false] 139))) := ⟨((Below.refl _ _).alloc (Nat.le_refl _) _).alloc (by simp) _⟩
 obtain ⟨p, hp⟩ : ∃ p, p = w.heap.size + 1 := ⟨_, rfl⟩
 rw [show (w.alloc (.cells #[.int .u32 0, .slice none 0 0, .int .u32 0] 53)).heap.size = p by rw [hp]; simp]
 rw [← hp] at RDa
 have RD := Aside0.mk RDa
 have nK2 : w.heap.size ≠ p := by omega
 have hwp : w.heap.size ≤ p := by omega
 clear hp RDa K2a
 generalize (w.alloc (.cells #[.int .u32 0, .slice none 0 0, .int .u32 0] 53)).alloc (.cells #[.string s, .int .i64 0, .bool false] 139) = w1 at *
 obtain ⟨g2, hg2⟩ : ∃ g, g = w.heap.size := ⟨_, rfl⟩
 rw [← hg2] at K2 nK2 ⊢
 have hwg2 : w.heap.size ≤ g2 := Nat.le_of_eq hg2.symm
 clear hg2
 go_wp2_with fail
 refine (rget_good w1 p s 0 32 RD.out (by omega) (by omega) (by omega)).mono ?_
 rintro e w2 ⟨rfl, hr_, hg_⟩
 replace RD : Aside0 (RdIs w2 p 139 s ((32 : Nat) : Int) false) := ⟨hr_⟩
 replace K2 := Aside0.mk (gb_blk hg_ K2.out (fun k hk => by injection hk with hk; subst hk; exact nK2))
 replace HB := Aside0.mk (gb_below HB.out hwp hg_)
 clear hg_ hr_
 obtain ⟨V0, hV0⟩ : ∃ V, V = rdBits s (0) 32 := ⟨_, rfl⟩
 have lV0 : V0 < 2 ^ 32 := by rw [hV0]; exact rdBits_lt _ _ _
 rw [← hV0]
 have HvV0 := Aside0.mk hV0
 clear hV0
 have hl4 := HB.out.size
 have h2l := blk_lt K2.out
 obtain ⟨g5, hg5⟩ : ∃ g, g = w2.heap.size := ⟨_, rfl⟩
 go_wp2_with fail
 have HT : Aside0 (CS w (w2.alloc (.cells #[.int .u32 (V0 : Int), .slice none 0 0, .int .u32 0] 53)) s p g2 g5 32 V0 (.slice none 0 0) []) := ⟨⟨gb_blk (World.grownBy_alloc w2 (.cells #[.int .u32 (V0 : Int), .slice none 0 0, .int .u32 0] 53) none) RD.out (fun k hk => by cases hk), gb_blk (World.grownBy_alloc w2 (.cells #[.int .u32 (V0 : Int), .slice none 0 0, .int .u32 0] 53) none) K2.out (fun k hk => by cases hk), by rw [hg5]; exact blk_new w2 _, BlocksV.nil _ _, HB.out.alloc hl4 _, hwp, hwg2, by omega, by omega⟩⟩
 rw [← hg5]
 generalize w2.alloc (.cells #[.int .u32 (V0 : Int), .slice none 0 0, .int .u32 0] 53) = w3 at *
 clear hg5 hl4 h2l K2 RD HB nK2
 have HBe := Aside0.mk (BehindB.start s)
 go_loopw [6, 7, 8, 9] (fun _ _ _ _ wr => RC1 w s p g2 g5 V0 wr) (fun _ _ _ _ wr => 8 * s.size - atP p wr)
 case atStart => exact ⟨32, none, 0, [], HT, by simp, by omega, HBe⟩
 case round =>
  clear HT HBe
  obtain ⟨a, A, c, L, HT, hL16, ha, HBe⟩ := hrel
  have HM0 := Aside0.mk (atPR_is HT.out.rd)
  go_wp2_with fail
  refine (rleft_any _ p s ((a : Nat) : Int) HT.out.rd (by omega) (by omega) (by omega)).mono ?_
  rintro e wX ⟨rfl, hd⟩
  replace HT := Aside0.mk (HT.out.step hd.below)
  clear hd
  by_cases z1 : 8 * s.size - a ≤ 32
  ·have q1 : decide (32 < 8 * (s.size : Int) - (a : Int)) = false := decide_eq_false (by omega)
   go_wp2_with fail
   refine (rget_good wX p s (a) 32 HT.out.rd (by omega) (by omega) (by omega)).mono ?_
   rintro e wY ⟨rfl, hr_, hg_⟩
   replace HT := Aside0.mk (HT.out.get (pos' := a + 32) hg_ hr_)
   clear hg_ hr_
   obtain ⟨V, hV⟩ : ∃ V, V = rdBits s (a) 32 := ⟨_, rfl⟩
   have lV : V < 2 ^ 32 := by rw [hV]; exact rdBits_lt _ _ _
   rw [← hV]
   have HvV := Aside0.mk hV
   clear hV
   have hP := ccfbP_ok h1 h2 h3 (HBe.out.done z1)
   rw [← HvV0.out, ← HvV.out] at hP
   have HP := Aside0.mk hP
   clear hP
   have h25 := HT.out.n25
   have x0 := blk_cell HT.out.k2 0
   have x1 := blk_cell HT.out.k2 1
   have x2 := blk_cell HT.out.k2 2
   simp only [List.getElem?_toArray, List.getElem?_cons_zero, List.getElem?_cons_succ] at x0 x1 x2
   have fx0 := blk_frozen HT.out.k2 0
   have fx1 := blk_frozen HT.out.k2 1
   have fx2 := blk_frozen HT.out.k2 2
   have c0 := blk_cell HT.out.k5 0
   have c1 := blk_cell HT.out.k5 1
   have c2 := blk_cell HT.out.k5 2
   simp only [List.getElem?_toArray, List.getElem?_cons_zero, List.getElem?_cons_succ] at c0 c1 c2
   have fc2 := blk_frozen HT.out.k5 2
   go_wp2_with fail
   (try simp only [Exit.inBlock, Exit.then])
   have z5 := blk_set HT.out.k5 2 (.int .u32 (V : Int))
   have zz2 := (Below.heap_setCell wY (⟨g5, 2, none⟩ : Addr) (.int .u32 (V : Int)) g2 HT.out.n25).trans HT.out.k2
   refine bodyPost_ret (rcc_load g2 _ _ _ _ _ _ rfl rfl (zset zz2 (.int .u32 (V0 : Int)) (.slice A L.length c) (.int .u32 (V : Int)))) rfl ?_
   have hwg5 := HT.out.w5
   have l1 := HT.out.bl.setCell (p := ⟨g5, 2, none⟩) (.int .u32 (V : Int)) HT.out.k5 (by decide) (by decide)
   have l2 := l1.setCell (p := ⟨g2, 0, none⟩) (.int .u32 (V0 : Int)) zz2 (by decide) (by decide)
   have l3 := l2.setCell (p := ⟨g2, 1, none⟩) (.slice A L.length c) (blk_set zz2 0 (.int .u32 (V0 : Int))) (by decide) (by decide)
   have l4 := l3.setCell (p := ⟨g2, 2, none⟩) (.int .u32 (V : Int)) (blk_set (blk_set zz2 0 (.int .u32 (V0 : Int))) 1 (.slice A L.length c)) (by decide) (by decide)
   exact ⟨.slice A L.length c, L, by rw [HP.out]; rfl, l4, by rw [HP.out], (((HT.out.bel.setCell (p := ⟨g5, 2, none⟩) hwg5 _).setCell (p := ⟨g2, 0, none⟩) hwg2 _).setCell (p := ⟨g2, 1, none⟩) hwg2 _).setCell (p := ⟨g2, 2, none⟩) hwg2 _⟩
  ·have q1 : decide (32 < 8 * (s.size : Int) - (a : Int)) = true := decide_eq_true (by omega)
   have c1 := blk_cell HT.out.k5 1
   simp only [List.getElem?_toArray, List.getElem?_cons_zero, List.getElem?_cons_succ] at c1
   by_cases z2 : L.length = 16
   ·have q2 : ((L.length : Int) == 16) = true := by rw [z2]; rfl
    have HP := Aside0.mk (ccfbP_bad h1 h2 h3 (HBe.out.many z1 (by rw [List.length_map]; exact z2)))
    clear z2
    have x0 := blk_cell HT.out.k2 0
    have x1 := blk_cell HT.out.k2 1
    have x2 := blk_cell HT.out.k2 2
    simp only [List.getElem?_toArray, List.getElem?_cons_zero, List.getElem?_cons_succ] at x0 x1 x2
    have fx0 := blk_frozen HT.out.k2 0
    have fx1 := blk_frozen HT.out.k2 1
    have fx2 := blk_frozen HT.out.k2 2
    go_wp2_with fail
    (try simp only [Exit.inBlock, Exit.then])
    refine bodyPost_ret (rcc_load g2 _ _ _ _ _ _ rfl rfl (zset HT.out.k2 (.int .u32 0) (.slice none 0 0) (.int .u32 0))) rfl ?_
    exact CcfbPost.bad HP.out HT.out.bel hwg2
   have q2 : ((L.length : Int) == 16) = false := by simp; omega
   go_wp2_with fail
   clear c1
   refine (rleft_any wX p s ((a : Nat) : Int) HT.out.rd (by omega) (by omega) (by omega)).mono ?_
   rintro e w3_ ⟨rfl, hd⟩
   replace HT := Aside0.mk (HT.out.step hd.below)
   clear hd
   by_cases y1 : 8 * s.size - a < 96
   ·have q3 : decide (8 * (s.size : Int) - (a : Int) < 96) = true := decide_eq_true (by omega)
    have HEE : Aside0 (blockErr s a = 60) := ⟨by unfold blockErr; rw [if_pos y1]⟩
    have HP := Aside0.mk (ccfbP_bad h1 h2 h3 (HBe.out.bad z1 (by rw [List.length_map]; exact z2) (by rw [HEE.out]; decide)))
    rw [HEE.out] at HP
    have x0 := blk_cell HT.out.k2 0
    have x1 := blk_cell HT.out.k2 1
    have x2 := blk_cell HT.out.k2 2
    simp only [List.getElem?_toArray, List.getElem?_cons_zero, List.getElem?_cons_succ] at x0 x1 x2
    have fx0 := blk_frozen HT.out.k2 0
    have fx1 := blk_frozen HT.out.k2 1
    have fx2 := blk_frozen HT.out.k2 2
    go_wp2_with fail
    (try simp only [Exit.inBlock, Exit.then])
    refine bodyPost_ret (rcc_load g2 _ _ _ _ _ _ rfl rfl (zset HT.out.k2 (.int .u32 0) (.slice none 0 0) (.int .u32 0))) rfl ?_
    exact CcfbPost.bad HP.out HT.out.bel hwg2
   have q3 : decide (8 * (s.size : Int) - (a : Int) < 96) = false := decide_eq_false (by omega)
   go_wp2_with fail
   refine (rget_good w3_ p s (a) 32 HT.out.rd (by omega) (by omega) (by omega)).mono ?_
   rintro e w4_ ⟨rfl, hr_, hg_⟩
   replace HT := Aside0.mk (HT.out.get (pos' := a + 32) hg_ hr_)
   clear hg_ hr_
   obtain ⟨V1, hV1⟩ : ∃ V, V = rdBits s (a) 32 := ⟨_, rfl⟩
   have lV1 : V1 < 2 ^ 32 := by rw [hV1]; exact rdBits_lt _ _ _
   rw [← hV1]
   have HvV1 := Aside0.mk hV1
   clear hV1
   go_wp2_with fail
   refine (rget_good w4_ p s (a + 32) 16 HT.out.rd (by omega) (by omega) (by omega)).mono ?_
   rintro e w5_ ⟨rfl, hr_, hg_⟩
   replace HT := Aside0.mk (HT.out.get (pos' := a + 48) hg_ hr_)
   clear hg_ hr_
   obtain ⟨V2, hV2⟩ : ∃ V, V = rdBits s (a + 32) 16 := ⟨_, rfl⟩
   have lV2 : V2 < 2 ^ 16 := by rw [hV2]; exact rdBits_lt _ _ _
   rw [← hV2]
   have HvV2 := Aside0.mk hV2
   clear hV2
   go_wp2_with fail
   have HTI := HT
   have RD := Aside0.mk (gb_blk (World.grownBy_alloc w5_ (.cells #[.int .u32 (V1 : Int), .int .i64 (V2 : Int), .slice none 0 0] 49) none) HT.out.rd (fun k hk => by cases hk))
   have hpl := blk_lt HT.out.rd
   have K6 : Aside0 ((w5_.alloc (.cells #[.int .u32 (V1 : Int), .int .i64 (V2 : Int), .slice none 0 0] 49)).heap[w5_.heap.size]? = some (.cells #[.int .u32 (V1 : Int), .int .i64 (V2 : Int), .slice none 0 0] 49 (0, 0))) := ⟨blk_new w5_ _⟩
   have HG := Aside0.mk (gb_alloc (World.grownBy.refl w5_ (some p)) (.cells #[.int .u32 (V1 : Int), .int .i64 (V2 : Int), .slice none 0 0] 49))
   obtain ⟨g6, hg6⟩ : ∃ g, g = w5_.heap.size := ⟨_, rfl⟩
   have nK6 : g6 ≠ p := by omega
   have hwg6 : w5_.heap.size ≤ g6 := by omega
   rw [← hg6] at K6 ⊢
   clear hg6 hpl HT
   generalize w5_.alloc (.cells #[.int .u32 (V1 : Int), .int .i64 (V2 : Int), .slice none 0 0] 49) = w6_ at *
   refine (rget_good w6_ p s (a + 48) 16 RD.out (by omega) (by omega) (by omega)).mono ?_
   rintro e w6b ⟨rfl, hr_, hg_⟩
   replace RD : Aside0 (RdIs w6b p 139 s ((a + 64 : Nat) : Int) false) := ⟨by rw [show a + 64 = (a + 48) + 16 by omega]; exact hr_⟩
   replace K6 := Aside0.mk (gb_blk hg_ K6.out (fun k hk => by injection hk with hk; subst hk; exact nK6))
   replace HG := Aside0.mk (only_trans HG.out hg_)
   clear hg_ hr_
   obtain ⟨n, hn⟩ : ∃ V, V = rdBits s (a + 48) 16 := ⟨_, rfl⟩
   have ln : n < 2 ^ 16 := by rw [hn]; exact rdBits_lt _ _ _
   rw [← hn]
   have Hvn := Aside0.mk hn
   clear hn
   have Hn : Aside0 (rdBits s (a + 48) 16 = n) := ⟨Hvn.out.symm⟩
   by_cases y2 : 4096 < n
   ·have q4 : decide (4096 < (n : Int)) = true := decide_eq_true (by omega)
    have HEE : Aside0 (blockErr s a = 3) := ⟨by unfold blockErr; rw [if_neg y1, Hn.out, if_pos y2]⟩
    have HTX := Aside0.mk (HTI.out.get HG.out RD.out)
    have HP := Aside0.mk (ccfbP_bad h1 h2 h3 (HBe.out.bad z1 (by rw [List.length_map]; exact z2) (by rw [HEE.out]; decide)))
    rw [HEE.out] at HP
    have x0 := blk_cell HTX.out.k2 0
    have x1 := blk_cell HTX.out.k2 1
    have x2 := blk_cell HTX.out.k2 2
    simp only [List.getElem?_toArray, List.getElem?_cons_zero, List.getElem?_cons_succ] at x0 x1 x2
    have fx0 := blk_frozen HTX.out.k2 0
    have fx1 := blk_frozen HTX.out.k2 1
    have fx2 := blk_frozen HTX.out.k2 2
    go_wp2_with fail
    (try simp only [Exit.inBlock, Exit.then])
    refine bodyPost_ret (rcc_load g2 _ _ _ _ _ _ rfl rfl (zset HTX.out.k2 (.int .u32 0) (.slice none 0 0) (.int .u32 0))) rfl ?_
    exact CcfbPost.bad HP.out HTX.out.bel hwg2
   have q4 : decide (4096 < (n : Int)) = false := decide_eq_false (by omega)
   go_wp2_with fail
   refine (rleft_any w6b p s ((a + 64 : Nat) : Int) RD.out (by omega) (by omega) (by omega)).mono ?_
   rintro e w7_ ⟨rfl, hd⟩
   replace RD := Aside0.mk (gb_blk (gb_drawn0 hd none) RD.out (fun k hk => by cases hk))
   replace K6 := Aside0.mk (gb_blk (gb_drawn0 hd none) K6.out (fun k hk => by cases hk))
   replace HG := Aside0.mk (gb_drawn HG.out hd)
   clear hd
   rw [show 8 * (s.size : Int) - ((a + 64 : Nat) : Int) = ((8 * s.size - (a + 64) : Nat) : Int) by omega]
   obtain ⟨Lf, hLf⟩ : ∃ L, L = 8 * s.size - (a + 64) := ⟨_, rfl⟩
   rw [← hLf]
   by_cases yy3 : Lf < (n + 1) / 2 * 32 + 32
   ·have q5 : decide ((Lf : Int) < ((n : Int) + 1) / 2 * 32 + 32) = true := decide_eq_true (by omega)
    have HEE : Aside0 (blockErr s a = 60) := ⟨by unfold blockErr; rw [if_neg y1, Hn.out, if_neg y2, ← hLf, if_pos yy3]⟩
    clear hLf
    have HTX := Aside0.mk (HTI.out.get HG.out RD.out)
    have HP := Aside0.mk (ccfbP_bad h1 h2 h3 (HBe.out.bad z1 (by rw [List.length_map]; exact z2) (by rw [HEE.out]; decide)))
    rw [HEE.out] at HP
    have x0 := blk_cell HTX.out.k2 0
    have x1 := blk_cell HTX.out.k2 1
    have x2 := blk_cell HTX.out.k2 2
    simp only [List.getElem?_toArray, List.getElem?_cons_zero, List.getElem?_cons_succ] at x0 x1 x2
    have fx0 := blk_frozen HTX.out.k2 0
    have fx1 := blk_frozen HTX.out.k2 1
    have fx2 := blk_frozen HTX.out.k2 2
    go_wp2_with fail
    (try simp only [Exit.inBlock, Exit.then])
    refine bodyPost_ret (rcc_load g2 _ _ _ _ _ _ rfl rfl (zset HTX.out.k2 (.int .u32 0) (.slice none 0 0) (.int .u32 0))) rfl ?_
    exact CcfbPost.bad HP.out HTX.out.bel hwg2
   have q5 : decide ((Lf : Int) < ((n : Int) + 1) / 2 * 32 + 32) = false := decide_eq_false (by omega)
   have hroom : a + 64 + (n + 1) / 2 * 32 + 32 ≤ 8 * s.size := by omega
   have HL := Aside0.mk hLf
   clear hLf
   go_wp2_with fail
   go_loopw [8, 9] (fun v8 _ wr => RC2 s a p g6 n V1 V2 w5_ v8 wr) (fun v _ _ => n - (intOf v).toNat)
   case atStart => exact ⟨0, none, 0, rfl, by omega, ⟨fun m hm => by simp [metrs] at hm⟩, K6, ⟨by simpa [metrs, metV] using RowV.nil w7_ w5_.heap.size 45 3⟩, RD, HG⟩
   case round =>
    clear RD K6 HG
    obtain ⟨k, Am, cm, rfl, hk, hOk, K6, HRm, RD, HG⟩ := hrel
    by_cases hlt : k < n
    ·have q6 : decide ((k : Int) < (n : Int)) = true := decide_eq_true (by omega)
     go_wp2_with fail
     refine (rget_good wr p s (a + 64 + 16 * k) 1 RD.out (by omega) (by omega) (by omega)).mono ?_
     rintro e y1_ ⟨rfl, hr_, hg_⟩
     replace HRm := Aside0.mk (HRm.out.gb hg_ (fun k hk => by injection hk with hk; subst hk; exact HRm.out.ne RD.out (by decide)))
     replace RD : Aside0 (RdIs y1_ p 139 s ((a + 64 + 16 * k + 1 : Nat) : Int) false) := ⟨by rw [show a + 64 + 16 * k + 1 = (a + 64 + 16 * k) + 1 by omega]; exact hr_⟩
     replace K6 := Aside0.mk (gb_blk hg_ K6.out (fun k hk => by injection hk with hk; subst hk; exact nK6))
     replace HG := Aside0.mk (only_trans HG.out hg_)
     clear hg_ hr_
     obtain ⟨G, hG⟩ : ∃ V, V = rdBits s (a + 64 + 16 * k) 1 := ⟨_, rfl⟩
     have lG : G < 2 ^ 1 := by rw [hG]; exact rdBits_lt _ _ _
     rw [← hG]
     have HvG := Aside0.mk hG
     clear hG
     go_wp2_with fail
     refine (rget_good y1_ p s (a + 64 + 16 * k + 1) 2 RD.out (by omega) (by omega) (by omega)).mono ?_
     rintro e y2_ ⟨rfl, hr_, hg_⟩
     replace HRm := Aside0.mk (HRm.out.gb hg_ (fun k hk => by injection hk with hk; subst hk; exact HRm.out.ne RD.out (by decide)))
     replace RD : Aside0 (RdIs y2_ p 139 s ((a + 64 + 16 * k + 3 : Nat) : Int) false) := ⟨by rw [show a + 64 + 16 * k + 3 = (a + 64 + 16 * k + 1) + 2 by omega]; exact hr_⟩
     replace K6 := Aside0.mk (gb_blk hg_ K6.out (fun k hk => by injection hk with hk; subst hk; exact nK6))
     replace HG := Aside0.mk (only_trans HG.out hg_)
     clear hg_ hr_
     obtain ⟨C, hC⟩ : ∃ V, V = rdBits s (a + 64 + 16 * k + 1) 2 := ⟨_, rfl⟩
     have lC : C < 2 ^ 2 := by rw [hC]; exact rdBits_lt _ _ _
     rw [← hC]
     have HvC := Aside0.mk hC
     clear hC
     go_wp2_with fail
     refine (rget_good y2_ p s (a + 64 + 16 * k + 3) 13 RD.out (by omega) (by omega) (by omega)).mono ?_
     rintro e y3 ⟨rfl, hr_, hg_⟩
     replace HRm := Aside0.mk (HRm.out.gb hg_ (fun k hk => by injection hk with hk; subst hk; exact HRm.out.ne RD.out (by decide)))
     replace RD : Aside0 (RdIs y3 p 139 s ((a + 64 + 16 * (k + 1) : Nat) : Int) false) := ⟨by rw [show a + 64 + 16 * (k + 1) = (a + 64 + 16 * k + 3) + 13 by omega]; exact hr_⟩
     replace K6 := Aside0.mk (gb_blk hg_ K6.out (fun k hk => by injection hk with hk; subst hk; exact nK6))
     replace HG := Aside0.mk (only_trans HG.out hg_)
     clear hg_ hr_
     obtain ⟨O, hO⟩ : ∃ V, V = rdBits s (a + 64 + 16 * k + 3) 13 := ⟨_, rfl⟩
     have lO : O < 2 ^ 13 := by rw [hO]; exact rdBits_lt _ _ _
     rw [← hO]
     have HvO := Aside0.mk hO
     clear hO
     have HM : Aside0 (metr s (a + 64 + 16 * k) = (decide (G = 1), (C : Int), (O : Int))) := ⟨by unfold metr; rw [← HvG.out, ← HvC.out, ← HvO.out]⟩
     have bitG : G = 0 ∨ G = 1 := by omega
     have h6l := blk_lt K6.out
     have h2l := blk_lt HTI.out.k2
     have hsz := HG.out.size
     rcases bitG with hG0 | hG1
     ·have qG : ((G : Int) == 1) = false := by rw [hG0]; rfl
      have HG0 := Aside0.mk hG0
      clear hG0
      by_cases zC : C = 0
      ·have qC : ((C : Int) != 0) = false := by rw [zC]; rfl
       have ZC_ := Aside0.mk zC
       clear zC
       by_cases zO : O = 0
       ·have qO : ((O : Int) != 0) = false := by rw [zO]; rfl
        have ZO_ := Aside0.mk zO
        clear zO
        have HMB : Aside0 (metr s (a + 64 + 16 * k) = (false, (C : Int), (O : Int))) := ⟨by rw [HM.out, HG0.out]; rfl⟩
        have HOKM : Aside0 (metrOk (metr s (a + 64 + 16 * k)) = true) := ⟨by rw [HMB.out]; simp [metrOk, ZC_.out, ZO_.out]⟩
        have X6 := Aside0.mk (gb_blk (World.grownBy_alloc (y3.alloc (.cells #[.bool false, .int .i64 (C : Int), .int .i64 (O : Int)] 45)) (.cells #[.bool false, .int .i64 (C : Int), .int .i64 (O : Int)] 45) none) (gb_blk (World.grownBy_alloc y3 (.cells #[.bool false, .int .i64 (C : Int), .int .i64 (O : Int)] 45) none) K6.out (fun k hk => by cases hk)) (fun k hk => by cases hk))
        have XD := Aside0.mk (gb_blk (World.grownBy_alloc (y3.alloc (.cells #[.bool false, .int .i64 (C : Int), .int .i64 (O : Int)] 45)) (.cells #[.bool false, .int .i64 (C : Int), .int .i64 (O : Int)] 45) none) (gb_blk (World.grownBy_alloc y3 (.cells #[.bool false, .int .i64 (C : Int), .int .i64 (O : Int)] 45) none) RD.out (fun k hk => by cases hk)) (fun k hk => by cases hk))
        have XR := Aside0.mk ((HRm.out.alloc (.cells #[.bool false, .int .i64 (C : Int), .int .i64 (O : Int)] 45)).alloc (.cells #[.bool false, .int .i64 (C : Int), .int .i64 (O : Int)] 45))
        have XG := Aside0.mk (gb_alloc (gb_alloc HG.out (.cells #[.bool false, .int .i64 (C : Int), .int .i64 (O : Int)] 45)) (.cells #[.bool false, .int .i64 (C : Int), .int .i64 (O : Int)] 45))
        have HNX : Aside0 (∀ j u, ([.bool false, .int .i64 (C : Int), .int .i64 (O : Int)] : List Value)[j]? = some u → ((y3.alloc (.cells #[.bool false, .int .i64 (C : Int), .int .i64 (O : Int)] 45)).alloc (.cells #[.bool false, .int .i64 (C : Int), .int .i64 (O : Int)] 45)).cell? ((⟨y3.heap.size + 1, 0, none⟩ : Addr).add j) = some u) := ⟨by
         have h := new_news (y3.alloc (.cells #[.bool false, .int .i64 (C : Int), .int .i64 (O : Int)] 45)) [.bool false, .int .i64 (C : Int), .int .i64 (O : Int)] 45
         simpa using h⟩
        have HBX : Aside0 (w5_.heap.size ≤ ((y3.alloc (.cells #[.bool false, .int .i64 (C : Int), .int .i64 (O : Int)] 45)).alloc (.cells #[.bool false, .int .i64 (C : Int), .int .i64 (O : Int)] 45)).heap.size) := ⟨XG.out.size⟩
        have c2 := blk_cell K6.out 2
        simp only [List.getElem?_toArray, List.getElem?_cons_zero, List.getElem?_cons_succ] at c2
        go_wp2_with (at_builtin; go_loud (refine row_append (w := ((y3.alloc (.cells #[.bool false, .int .i64 (C : Int), .int .i64 (O : Int)] 45)).alloc (.cells #[.bool false, .int .i64 (C : Int), .int .i64 (O : Int)] 45))) rfl (.tmp 91) (.tmp 93) 46 rfl 45 Try.t45 (.agg #[.bool false, .int .i64 0, .int .i64 0]) 3 24 Try.underlying46 (by kernel_rfl) rfl rfl rfl (by decide) (by decide) w5_.heap.size (.slice Am k cm) k (metV (metrs s (a + 64) k)) (by rfl) XR.out ⟨y3.heap.size + 1, 0, none⟩ 1 1 [.bool false, .int .i64 (C : Int), .int .i64 (O : Int)] (by rfl) rfl HNX.out (by simp [Value.oneCell']) (by simp only [maxLen]; omega) (by omega) HBX.out ?_); intro v1 w6 hR6 hG6 hO6 hF6; obtain ⟨g7, o7, c7, rfl, hb6, hn6, hc6, hx6⟩ := hR6.some_ (by omega); have X6' := gb_blkR hG6 XR.out X6.out (by decide); have XD' := Aside0.mk (gb_blkR hG6 XR.out XD.out (by decide)); have XG' := Aside0.mk (gb_row XG.out hG6 (fun k hk => (XR.out.lt hk).2.1)); have u2 := blk_cell X6' 2; have u2f := blk_frozen X6' 2; simp only [List.getElem?_toArray, List.getElem?_cons_zero, List.getElem?_cons_succ] at u2; have HR6 := Aside0.mk hR6; have HX6 := Aside0.mk X6'; clear X6' hx6 hR6 hG6 hO6 hF6 c2)
        have K6n := blk_set HX6.out 2 (.slice (some ⟨g7, o7, none⟩) (k + 1) c7)
        have n6 : ∀ j, (Value.slice (some ⟨g7, o7, none⟩) (k + 1) c7).ownBlock = some j → j ≠ g6 := fun j hj e => HR6.out.ne HX6.out (by decide) (by rw [← e]; exact hj)
        refine ⟨⟨k + 1, some ⟨g7, o7, none⟩, c7, by simp, by omega, ⟨?_⟩, ⟨?_⟩, ⟨?_⟩, ⟨?_⟩, ⟨?_⟩⟩, by simp [intOf]; omega⟩
        ·intro m hm
         rw [metrs_succ] at hm
         rcases List.mem_append.1 hm with h | h
         ·exact hOk.out m h
         ·rw [List.mem_singleton.1 h]; exact HOKM.out
        ·refine K6n.trans ?_
         simp
        ·rw [metrs_succ, metV_snoc, HMB.out]
         exact HR6.out.setCell (p := ⟨g6, 2, none⟩) _ (fun e => n6 g6 e rfl)
        ·exact (Below.heap_setCell w6 (⟨g6, 2, none⟩ : Addr) _ p nK6.symm).trans XD'.out
        ·exact gb_set (p := ⟨g6, 2, none⟩) XG'.out hwg6 _
       ·have qO : ((O : Int) != 0) = true := by simp; omega
        have HEE : Aside0 (blockErr s a = 70) := ⟨blockErr_70 y1 Hn.out y2 (by rw [← HL.out]; exact yy3) hlt (by rw [HM.out, HG0.out]; simp [metrOk]; have := ZC_.out; omega)⟩
        have HTX := Aside0.mk (HTI.out.get HG.out RD.out)
        have HP := Aside0.mk (ccfbP_bad h1 h2 h3 (HBe.out.bad z1 (by rw [List.length_map]; exact z2) (by rw [HEE.out]; decide)))
        rw [HEE.out] at HP
        have x0 := blk_cell HTX.out.k2 0
        have x1 := blk_cell HTX.out.k2 1
        have x2 := blk_cell HTX.out.k2 2
        simp only [List.getElem?_toArray, List.getElem?_cons_zero, List.getElem?_cons_succ] at x0 x1 x2
        have fx0 := blk_frozen HTX.out.k2 0
        have fx1 := blk_frozen HTX.out.k2 1
        have fx2 := blk_frozen HTX.out.k2 2
        have h2x := blk_lt HTX.out.k2
        go_wp2_with fail
        (try simp only [Exit.inBlock, Exit.then])
        have z_ := gb_blk (World.grownBy_alloc _ (.cells #[.bool false, .int .i64 (C : Int), .int .i64 (O : Int)] 45) none) (zset HTX.out.k2 (.int .u32 0) (.slice none 0 0) (.int .u32 0)) (fun k hk => by cases hk)
        refine bodyPost_ret (rcc_load g2 _ _ _ _ _ _ rfl rfl z_) rfl ?_
        exact ⟨.slice none 0 0, [], by rw [HP.out]; rfl, BlocksV.nil _ _, by rw [HP.out]; rfl, (((HTX.out.bel.setCell (p := ⟨g2, 0, none⟩) hwg2 _).setCell (p := ⟨g2, 1, none⟩) hwg2 _).setCell (p := ⟨g2, 2, none⟩) hwg2 _).alloc (by have := HTX.out.bel.size; simpa [World.setCell] using this) _⟩
      ·have qC : ((C : Int) != 0) = true := by simp; omega
       have HEE : Aside0 (blockErr s a = 70) := ⟨blockErr_70 y1 Hn.out y2 (by rw [← HL.out]; exact yy3) hlt (by rw [HM.out, HG0.out]; simp [metrOk]; omega)⟩
       have HTX := Aside0.mk (HTI.out.get HG.out RD.out)
       have HP := Aside0.mk (ccfbP_bad h1 h2 h3 (HBe.out.bad z1 (by rw [List.length_map]; exact z2) (by rw [HEE.out]; decide)))
       rw [HEE.out] at HP
       have x0 := blk_cell HTX.out.k2 0
       have x1 := blk_cell HTX.out.k2 1
       have x2 := blk_cell HTX.out.k2 2
       simp only [List.getElem?_toArray, List.getElem?_cons_zero, List.getElem?_cons_succ] at x0 x1 x2
       have fx0 := blk_frozen HTX.out.k2 0
       have fx1 := blk_frozen HTX.out.k2 1
       have fx2 := blk_frozen HTX.out.k2 2
       have h2x := blk_lt HTX.out.k2
       go_wp2_with fail
       (try simp only [Exit.inBlock, Exit.then])
       have z_ := gb_blk (World.grownBy_alloc _ (.cells #[.bool false, .int .i64 (C : Int), .int .i64 (O : Int)] 45) none) (zset HTX.out.k2 (.int .u32 0) (.slice none 0 0) (.int .u32 0)) (fun k hk => by cases hk)
       refine bodyPost_ret (rcc_load g2 _ _ _ _ _ _ rfl rfl z_) rfl ?_
       exact ⟨.slice none 0 0, [], by rw [HP.out]; rfl, BlocksV.nil _ _, by rw [HP.out]; rfl, (((HTX.out.bel.setCell (p := ⟨g2, 0, none⟩) hwg2 _).setCell (p := ⟨g2, 1, none⟩) hwg2 _).setCell (p := ⟨g2, 2, none⟩) hwg2 _).alloc (by have := HTX.out.bel.size; simpa [World.setCell] using this) _⟩
     ·have qG : ((G : Int) == 1) = true := by rw [hG1]; rfl
      have HG1 := Aside0.mk hG1
      clear hG1
      have HMB : Aside0 (metr s (a + 64 + 16 * k) = (true, (C : Int), (O : Int))) := ⟨by rw [HM.out, HG1.out]; rfl⟩
      have HOKM : Aside0 (metrOk (metr s (a + 64 + 16 * k)) = true) := ⟨by rw [HMB.out]; rfl⟩
      have X6 := Aside0.mk (gb_blk (World.grownBy_alloc (y3.alloc (.cells #[.bool true, .int .i64 (C : Int), .int .i64 (O : Int)] 45)) (.cells #[.bool true, .int .i64 (C : Int), .int .i64 (O : Int)] 45) none) (gb_blk (World.grownBy_alloc y3 (.cells #[.bool true, .int .i64 (C : Int), .int .i64 (O : Int)] 45) none) K6.out (fun k hk => by cases hk)) (fun k hk => by cases hk))
      have XD := Aside0.mk (gb_blk (World.grownBy_alloc (y3.alloc (.cells #[.bool true, .int .i64 (C : Int), .int .i64 (O : Int)] 45)) (.cells #[.bool true, .int .i64 (C : Int), .int .i64 (O : Int)] 45) none) (gb_blk (World.grownBy_alloc y3 (.cells #[.bool true, .int .i64 (C : Int), .int .i64 (O : Int)] 45) none) RD.out (fun k hk => by cases hk)) (fun k hk => by cases hk))
      have XR := Aside0.mk ((HRm.out.alloc (.cells #[.bool true, .int .i64 (C : Int), .int .i64 (O : Int)] 45)).alloc (.cells #[.bool true, .int .i64 (C : Int), .int .i64 (O : Int)] 45))
      have XG := Aside0.mk (gb_alloc (gb_alloc HG.out (.cells #[.bool true, .int .i64 (C : Int), .int .i64 (O : Int)] 45)) (.cells #[.bool true, .int .i64 (C : Int), .int .i64 (O : Int)] 45))
      have HNX : Aside0 (∀ j u, ([.bool true, .int .i64 (C : Int), .int .i64 (O : Int)] : List Value)[j]? = some u → ((y3.alloc (.cells #[.bool true, .int .i64 (C : Int), .int .i64 (O : Int)] 45)).alloc (.cells #[.bool true, .int .i64 (C : Int), .int .i64 (O : Int)] 45)).cell? ((⟨y3.heap.size + 1, 0, none⟩ : Addr).add j) = some u) := ⟨by
       have h := new_news (y3.alloc (.cells #[.bool true, .int .i64 (C : Int), .int .i64 (O : Int)] 45)) [.bool true, .int .i64 (C : Int), .int .i64 (O : Int)] 45
       simpa using h⟩
      have HBX : Aside0 (w5_.heap.size ≤ ((y3.alloc (.cells #[.bool true, .int .i64 (C : Int), .int .i64 (O : Int)] 45)).alloc (.cells #[.bool true, .int .i64 (C : Int), .int .i64 (O : Int)] 45)).heap.size) := ⟨XG.out.size⟩
      have c2 := blk_cell K6.out 2
      simp only [List.getElem?_toArray, List.getElem?_cons_zero, List.getElem?_cons_succ] at c2
      go_wp2_with (at_builtin; go_loud (refine row_append (w := ((y3.alloc (.cells #[.bool true, .int .i64 (C : Int), .int .i64 (O : Int)] 45)).alloc (.cells #[.bool true, .int .i64 (C : Int), .int .i64 (O : Int)] 45))) rfl (.tmp 91) (.tmp 93) 46 rfl 45 Try.t45 (.agg #[.bool false, .int .i64 0, .int .i64 0]) 3 24 Try.underlying46 (by kernel_rfl) rfl rfl rfl (by decide) (by decide) w5_.heap.size (.slice Am k cm) k (metV (metrs s (a + 64) k)) (by rfl) XR.out ⟨y3.heap.size + 1, 0, none⟩ 1 1 [.bool true, .int .i64 (C : Int), .int .i64 (O : Int)] (by rfl) rfl HNX.out (by simp [Value.oneCell']) (by simp only [maxLen]; omega) (by omega) HBX.out ?_); intro v1 w6 hR6 hG6 hO6 hF6; obtain ⟨g7, o7, c7, rfl, hb6, hn6, hc6, hx6⟩ := hR6.some_ (by omega); have X6' := gb_blkR hG6 XR.out X6.out (by decide); have XD' := Aside0.mk (gb_blkR hG6 XR.out XD.out (by decide)); have XG' := Aside0.mk (gb_row XG.out hG6 (fun k hk => (XR.out.lt hk).2.1)); have u2 := blk_cell X6' 2; have u2f := blk_frozen X6' 2; simp only [List.getElem?_toArray, List.getElem?_cons_zero, List.getElem?_cons_succ] at u2; have HR6 := Aside0.mk hR6; have HX6 := Aside0.mk X6'; clear X6' hx6 hR6 hG6 hO6 hF6 c2)
      have K6n := blk_set HX6.out 2 (.slice (some ⟨g7, o7, none⟩) (k + 1) c7)
      have n6 : ∀ j, (Value.slice (some ⟨g7, o7, none⟩) (k + 1) c7).ownBlock = some j → j ≠ g6 := fun j hj e => HR6.out.ne HX6.out (by decide) (by rw [← e]; exact hj)
      refine ⟨⟨k + 1, some ⟨g7, o7, none⟩, c7, by simp, by omega, ⟨?_⟩, ⟨?_⟩, ⟨?_⟩, ⟨?_⟩, ⟨?_⟩⟩, by simp [intOf]; omega⟩
      ·intro m hm
       rw [metrs_succ] at hm
       rcases List.mem_append.1 hm with h | h
       ·exact hOk.out m h
       ·rw [List.mem_singleton.1 h]; exact HOKM.out
      ·refine K6n.trans ?_
       simp
      ·rw [metrs_succ, metV_snoc, HMB.out]
       exact HR6.out.setCell (p := ⟨g6, 2, none⟩) _ (fun e => n6 g6 e rfl)
      ·exact (Below.heap_setCell w6 (⟨g6, 2, none⟩ : Addr) _ p nK6.symm).trans XD'.out
      ·exact gb_set (p := ⟨g6, 2, none⟩) XG'.out hwg6 _
    ·have hkn : k = n := by omega
     have q6 : decide ((k : Int) < (n : Int)) = false := decide_eq_false (by omega)
     have hEnd := blockErr_end y1 Hn.out y2 (by rw [← HL.out]; exact yy3) (by rw [← hkn]; exact hOk.out)
     rw [hkn] at HRm RD K6
     have HKN := Aside0.mk hkn
     clear hkn
     by_cases zp : n % 2 = 1
     ·have qp : ((n : Int) % 2 == 1) = true := by rw [two_mod, decide_eq_true zp]
      go_wp2_with fail
      refine (rget_good wr p s (a + 64 + 16 * n) 16 RD.out (by omega) (by omega) (by omega)).mono ?_
      rintro e z1_ ⟨rfl, hr_, hg_⟩
      replace HRm := Aside0.mk (HRm.out.gb hg_ (fun k hk => by injection hk with hk; subst hk; exact HRm.out.ne RD.out (by decide)))
      replace RD : Aside0 (RdIs z1_ p 139 s ((a + 64 + 16 * n + 16 : Nat) : Int) false) := ⟨by rw [show a + 64 + 16 * n + 16 = (a + 64 + 16 * n) + 16 by omega]; exact hr_⟩
      replace K6 := Aside0.mk (gb_blk hg_ K6.out (fun k hk => by injection hk with hk; subst hk; exact nK6))
      replace HG := Aside0.mk (only_trans HG.out hg_)
      clear hg_ hr_
      obtain ⟨Z, hZ⟩ : ∃ V, V = rdBits s (a + 64 + 16 * n) 16 := ⟨_, rfl⟩
      have lZ : Z < 2 ^ 16 := by rw [hZ]; exact rdBits_lt _ _ _
      rw [← hZ]
      have HvZ := Aside0.mk hZ
      clear hZ
      by_cases zq : Z = 0
      ·have qq : ((Z : Int) != 0) = false := by rw [zq]; rfl
       have HEE : Aside0 (blockErr s a = 0) := ⟨by rw [hEnd, if_neg (by rintro ⟨_, h⟩; exact h (by rw [← HvZ.out]; exact zq))]⟩
       have RDE : Aside0 (RdIs z1_ p 139 s ((blockEnd s a : Nat) : Int) false) := ⟨by unfold blockEnd; rw [Hn.out, show a + 64 + (n + 1) / 2 * 32 = a + 64 + 16 * n + 16 by omega]; exact RD.out⟩
       have hend := blockEnd_le (by omega) HEE.out
       have hltE := blockEnd_lt s a
       have HTX := Aside0.mk (HTI.out.get HG.out RDE.out)
       have HBn := Aside0.mk (HBe.out.next z1 (by rw [List.length_map]; exact z2) HEE.out)
       have HBO : Aside0 (blockOf s a = ((V1 : Int), (V2 : Int), metrs s (a + 64) n)) := ⟨by unfold blockOf; rw [Hn.out, ← HvV1.out, ← HvV2.out]⟩
       rw [HBO.out] at HBn
       obtain ⟨be, hbe⟩ : ∃ b, b = blockEnd s a := ⟨_, rfl⟩
       rw [← hbe] at HTX HBn hend hltE
       have HRml := Aside0.mk (HRm.out.low HTI.out.bel.size)
       clear hbe hEnd RDE
       have v0 := blk_cell K6.out 0
       have v1 := blk_cell K6.out 1
       have v2 := blk_cell K6.out 2
       simp only [List.getElem?_toArray, List.getElem?_cons_zero, List.getElem?_cons_succ] at v0 v1 v2
       have h5l := blk_lt HTX.out.k5
       have h6l := blk_lt K6.out
       have XT := Aside0.mk (HTX.out.step ((Below.refl z1_.heap.size z1_).alloc (Nat.le_refl _) (.cells #[.int .u32 (V1 : Int), .int .i64 (V2 : Int), .slice Am n cm] 49)))
       have XM : Aside0 (RowV (z1_.alloc (.cells #[.int .u32 (V1 : Int), .int .i64 (V2 : Int), .slice Am n cm] 49)) w.heap.size 45 3 (.slice Am n cm) (metrs s (a + 64) n).length (metV (metrs s (a + 64) n))) := ⟨by rw [metrs_length]; exact HRml.out.alloc (.cells #[.int .u32 (V1 : Int), .int .i64 (V2 : Int), .slice Am n cm] 49)⟩
       have HNX : Aside0 (∀ j u, ([.int .u32 (V1 : Int), .int .i64 (V2 : Int), .slice Am n cm] : List Value)[j]? = some u → (z1_.alloc (.cells #[.int .u32 (V1 : Int), .int .i64 (V2 : Int), .slice Am n cm] 49)).cell? ((⟨z1_.heap.size, 0, none⟩ : Addr).add j) = some u) := ⟨new_news z1_ [.int .u32 (V1 : Int), .int .i64 (V2 : Int), .slice Am n cm] 49⟩
       have HBX : Aside0 (w.heap.size ≤ (z1_.alloc (.cells #[.int .u32 (V1 : Int), .int .i64 (V2 : Int), .slice Am n cm] 49)).heap.size) := ⟨XT.out.bel.size⟩
       have c1 := blk_cell HTX.out.k5 1
       simp only [List.getElem?_toArray, List.getElem?_cons_zero, List.getElem?_cons_succ] at c1
       obtain ⟨nl, hnl⟩ : ∃ n, n = L.length := ⟨_, rfl⟩
       have HTR0 := XT.out.bl.1
       rw [← hnl] at c1 HTR0 hL16 z2
       have HTR := Aside0.mk HTR0
       have HNL := Aside0.mk hnl
       clear HTR0 hnl
       go_wp2_with (at_builtin; go_loud (refine row_append (w := (z1_.alloc (.cells #[.int .u32 (V1 : Int), .int .i64 (V2 : Int), .slice Am n cm] 49))) rfl (.tmp 106) (.tmp 108) 50 rfl 49 Try.t49 (.agg #[.int .u32 0, .int .i64 0, .slice none 0 0]) 3 40 Try.underlying50 (by kernel_rfl) rfl rfl rfl (by decide) (by decide) w.heap.size (.slice A nl c) nl (blkV L) (by rfl) HTR.out ⟨z1_.heap.size, 0, none⟩ 1 1 [.int .u32 (V1 : Int), .int .i64 (V2 : Int), .slice Am n cm] (by rfl) rfl HNX.out (by simp [Value.oneCell']) (by simp only [maxLen]; omega) (by omega) HBX.out ?_); intro v1 w6 hR6 hG6 hO6 hF6; have X6 := hR6; rw [HNL.out] at X6; have TN := Aside0.mk (XT.out.push (b := ((V1 : Int), (V2 : Int), metrs s (a + 64) n)) XM.out (by rw [← HNL.out]; exact hG6) X6); obtain ⟨g7, o7, c7, rfl, hb6, hn6, hc6, hx6⟩ := hR6.some_ (by omega); have u1 := blk_cell (gb_blkR hG6 HTR.out XT.out.k5 (by decide)) 1; have u1f := blk_frozen (gb_blkR hG6 HTR.out XT.out.k5 (by decide)) 1; simp only [List.getElem?_toArray, List.getElem?_cons_zero, List.getElem?_cons_succ] at u1; clear X6 hx6 hR6 hG6 hO6 hF6 c1)
       refine ⟨⟨be, some ⟨g7, o7, none⟩, c7, L ++ [(((V1 : Int), (V2 : Int), metrs s (a + 64) n), .slice Am n cm)], ⟨?_⟩, by rw [List.length_append, ← HNL.out]; simp; omega, by omega, ⟨by rw [List.map_append]; exact HBn.out⟩⟩, ?_⟩
       ·rw [List.length_append, ← HNL.out]
        exact TN.out
       ·show 8 * s.size - atP p _ < 8 * s.size - atP p _
        rw [HM0.out, atPR_is TN.out.rd]
        omega
      ·have qq : ((Z : Int) != 0) = true := by simp; omega
       have HEE : Aside0 (blockErr s a = 91) := ⟨by rw [hEnd, if_pos ⟨zp, by rw [← HvZ.out]; exact zq⟩]⟩
       have HTX := Aside0.mk (HTI.out.get HG.out RD.out)
       have HP := Aside0.mk (ccfbP_bad h1 h2 h3 (HBe.out.bad z1 (by rw [List.length_map]; exact z2) (by rw [HEE.out]; decide)))
       rw [HEE.out] at HP
       have x0 := blk_cell HTX.out.k2 0
       have x1 := blk_cell HTX.out.k2 1
       have x2 := blk_cell HTX.out.k2 2
       simp only [List.getElem?_toArray, List.getElem?_cons_zero, List.getElem?_cons_succ] at x0 x1 x2
       have fx0 := blk_frozen HTX.out.k2 0
       have fx1 := blk_frozen HTX.out.k2 1
       have fx2 := blk_frozen HTX.out.k2 2
       go_wp2_with fail
       (try simp only [Exit.inBlock, Exit.then])
       refine bodyPost_ret (rcc_load g2 _ _ _ _ _ _ rfl rfl (zset HTX.out.k2 (.int .u32 0) (.slice none 0 0) (.int .u32 0))) rfl ?_
       exact CcfbPost.bad HP.out HTX.out.bel hwg2
     ·have qp : ((n : Int) % 2 == 1) = false := by rw [two_mod, decide_eq_false zp]
      have HEE : Aside0 (blockErr s a = 0) := ⟨by rw [hEnd, if_neg (fun h => zp h.1)]⟩
      have RDE : Aside0 (RdIs wr p 139 s ((blockEnd s a : Nat) : Int) false) := ⟨by unfold blockEnd; rw [Hn.out, show a + 64 + (n + 1) / 2 * 32 = a + 64 + 16 * n by omega]; exact RD.out⟩
      have hend := blockEnd_le (by omega) HEE.out
      have hltE := blockEnd_lt s a
      have HTX := Aside0.mk (HTI.out.get HG.out RDE.out)
      have HBn := Aside0.mk (HBe.out.next z1 (by rw [List.length_map]; exact z2) HEE.out)
      have HBO : Aside0 (blockOf s a = ((V1 : Int), (V2 : Int), metrs s (a + 64) n)) := ⟨by unfold blockOf; rw [Hn.out, ← HvV1.out, ← HvV2.out]⟩
      rw [HBO.out] at HBn
      obtain ⟨be, hbe⟩ : ∃ b, b = blockEnd s a := ⟨_, rfl⟩
      rw [← hbe] at HTX HBn hend hltE
      have HRml := Aside0.mk (HRm.out.low HTI.out.bel.size)
      clear hbe hEnd RDE
      have v0 := blk_cell K6.out 0
      have v1 := blk_cell K6.out 1
      have v2 := blk_cell K6.out 2
      simp only [List.getElem?_toArray, List.getElem?_cons_zero, List.getElem?_cons_succ] at v0 v1 v2
      have h5l := blk_lt HTX.out.k5
      have h6l := blk_lt K6.out
      have XT := Aside0.mk (HTX.out.step ((Below.refl wr.heap.size wr).alloc (Nat.le_refl _) (.cells #[.int .u32 (V1 : Int), .int .i64 (V2 : Int), .slice Am n cm] 49)))
      have XM : Aside0 (RowV (wr.alloc (.cells #[.int .u32 (V1 : Int), .int .i64 (V2 : Int), .slice Am n cm] 49)) w.heap.size 45 3 (.slice Am n cm) (metrs s (a + 64) n).length (metV (metrs s (a + 64) n))) := ⟨by rw [metrs_length]; exact HRml.out.alloc (.cells #[.int .u32 (V1 : Int), .int .i64 (V2 : Int), .slice Am n cm] 49)⟩
      have HNX : Aside0 (∀ j u, ([.int .u32 (V1 : Int), .int .i64 (V2 : Int), .slice Am n cm] : List Value)[j]? = some u → (wr.alloc (.cells #[.int .u32 (V1 : Int), .int .i64 (V2 : Int), .slice Am n cm] 49)).cell? ((⟨wr.heap.size, 0, none⟩ : Addr).add j) = some u) := ⟨new_news wr [.int .u32 (V1 : Int), .int .i64 (V2 : Int), .slice Am n cm] 49⟩
      have HBX : Aside0 (w.heap.size ≤ (wr.alloc (.cells #[.int .u32 (V1 : Int), .int .i64 (V2 : Int), .slice Am n cm] 49)).heap.size) := ⟨XT.out.bel.size⟩
      have c1 := blk_cell HTX.out.k5 1
      simp only [List.getElem?_toArray, List.getElem?_cons_zero, List.getElem?_cons_succ] at c1
      obtain ⟨nl, hnl⟩ : ∃ n, n = L.length := ⟨_, rfl⟩
      have HTR0 := XT.out.bl.1
      rw [← hnl] at c1 HTR0 hL16 z2
      have HTR := Aside0.mk HTR0
      have HNL := Aside0.mk hnl
      clear HTR0 hnl
      go_wp2_with (at_builtin; go_loud (refine row_append (w := (wr.alloc (.cells #[.int .u32 (V1 : Int), .int .i64 (V2 : Int), .slice Am n cm] 49))) rfl (.tmp 106) (.tmp 108) 50 rfl 49 Try.t49 (.agg #[.int .u32 0, .int .i64 0, .slice none 0 0]) 3 40 Try.underlying50 (by kernel_rfl) rfl rfl rfl (by decide) (by decide) w.heap.size (.slice A nl c) nl (blkV L) (by rfl) HTR.out ⟨wr.heap.size, 0, none⟩ 1 1 [.int .u32 (V1 : Int), .int .i64 (V2 : Int), .slice Am n cm] (by rfl) rfl HNX.out (by simp [Value.oneCell']) (by simp only [maxLen]; omega) (by omega) HBX.out ?_); intro v1 w6 hR6 hG6 hO6 hF6; have X6 := hR6; rw [HNL.out] at X6; have TN := Aside0.mk (XT.out.push (b := ((V1 : Int), (V2 : Int), metrs s (a + 64) n)) XM.out (by rw [← HNL.out]; exact hG6) X6); obtain ⟨g7, o7, c7, rfl, hb6, hn6, hc6, hx6⟩ := hR6.some_ (by omega); have u1 := blk_cell (gb_blkR hG6 HTR.out XT.out.k5 (by decide)) 1; have u1f := blk_frozen (gb_blkR hG6 HTR.out XT.out.k5 (by decide)) 1; simp only [List.getElem?_toArray, List.getElem?_cons_zero, List.getElem?_cons_succ] at u1; clear X6 hx6 hR6 hG6 hO6 hF6 c1)
      refine ⟨⟨be, some ⟨g7, o7, none⟩, c7, L ++ [(((V1 : Int), (V2 : Int), metrs s (a + 64) n), .slice Am n cm)], ⟨?_⟩, by rw [List.length_append, ← HNL.out]; simp; omega, by omega, ⟨by rw [List.map_append]; exact HBn.out⟩⟩, ?_⟩
      ·rw [List.length_append, ← HNL.out]
       exact TN.out
      ·show 8 * s.size - atP p _ < 8 * s.size - atP p _
       rw [HM0.out, atPR_is TN.out.rd]
       omega
theorem rccfb_any (s : ByteArray) (w : World) (hs : s.size ≤ 1000000) : Calls Try.prog 22 #[.string s] w (CcfbPost s w) := by
 by_cases h : 65536 < s.size ∨ s.size % 4 ≠ 0 ∨ s.size < 8
 ·exact rccfb_short s w hs h
 ·exact rccfb_long s w (by omega) (by omega) (by omega)
end Go.Proofs.Ytgakmnholegbgaa.B
end
section
namespace Go.Proofs.Ytgakmnholegbgaa.B
set_option linter.unusedVariables false
set_option linter.unusedSimpArgs false
def PtOk (M c hi lo q left : Nat) (over : Bool) : Prop :=
 ∃ T Q : Nat, M = T * 340282366920938463463374607431768211456 + (hi * 18446744073709551616 + lo) ∧ hi < 18446744073709551616 ∧ lo < 18446744073709551616 ∧ T = c * Q + left ∧ left < c ∧ q = Q % 18446744073709551616 ∧ over = decide (18446744073709551616 ≤ Q)
theorem pt_start (hi lo c : Nat) (hc : 0 < c) (h0 : hi < 18446744073709551616) (h1 : lo < 18446744073709551616) : PtOk (hi * 18446744073709551616 + lo) c hi lo 0 0 false := ⟨0, 0, by omega, h0, h1, by simp, hc, by simp, by simp⟩
theorem pt_over (Q : Nat) : (decide (18446744073709551616 ≤ Q) || (Q % 18446744073709551616 / 9223372036854775808 == 1)) = decide (18446744073709551616 ≤ 2 * Q) ∧ (decide (18446744073709551616 ≤ Q) || (Q % 18446744073709551616 / 9223372036854775808 == 1)) = decide (18446744073709551616 ≤ 2 * Q + 1) := by
 by_cases h : 18446744073709551616 ≤ Q
 ·rw [decide_eq_true h, decide_eq_true (show 18446744073709551616 ≤ 2 * Q by omega), decide_eq_true (show 18446744073709551616 ≤ 2 * Q + 1 by omega)]
  simp
 ·rw [decide_eq_false h, Bool.false_or, Nat.mod_eq_of_lt (show Q < 18446744073709551616 by omega)]
  by_cases h2 : 9223372036854775808 ≤ Q
  ·have e : Q / 9223372036854775808 = 1 := by omega
   rw [e, decide_eq_true (show 18446744073709551616 ≤ 2 * Q by omega), decide_eq_true (show 18446744073709551616 ≤ 2 * Q + 1 by omega)]
   simp
  ·have e : Q / 9223372036854775808 = 0 := by omega
   rw [e, decide_eq_false (show ¬ 18446744073709551616 ≤ 2 * Q by omega), decide_eq_false (show ¬ 18446744073709551616 ≤ 2 * Q + 1 by omega)]
   simp
theorem pt_bits (M T hi lo : Nat) (h : M = T * 340282366920938463463374607431768211456 + (hi * 18446744073709551616 + lo)) (h0 : hi < 18446744073709551616) (h1 : lo < 18446744073709551616) :
  2 * M = (2 * T + hi / 9223372036854775808) * 340282366920938463463374607431768211456 + ((hi * 2 % 18446744073709551616 + lo / 9223372036854775808) * 18446744073709551616 + lo * 2 % 18446744073709551616) ∧ hi * 2 % 18446744073709551616 + lo / 9223372036854775808 < 18446744073709551616 ∧ lo * 2 % 18446744073709551616 < 18446744073709551616 := by
 have a1 : hi = 9223372036854775808 * (hi / 9223372036854775808) + hi % 9223372036854775808 := (Nat.div_add_mod _ _).symm
 have a2 : lo = 9223372036854775808 * (lo / 9223372036854775808) + lo % 9223372036854775808 := (Nat.div_add_mod _ _).symm
 have a3 : hi % 9223372036854775808 < 9223372036854775808 := Nat.mod_lt _ (by omega)
 have a4 : lo % 9223372036854775808 < 9223372036854775808 := Nat.mod_lt _ (by omega)
 have a5 : hi / 9223372036854775808 < 2 := by omega
 have a6 : lo / 9223372036854775808 < 2 := by omega
 generalize hi / 9223372036854775808 = u at *
 generalize lo / 9223372036854775808 = v at *
 generalize hi % 9223372036854775808 = x at *
 generalize lo % 9223372036854775808 = y at *
 have e1 : hi * 2 % 18446744073709551616 = 2 * x := by
  have : u = 0 ∨ u = 1 := by omega
  rcases this with rfl | rfl <;> omega
 have e2 : lo * 2 % 18446744073709551616 = 2 * y := by
  have : v = 0 ∨ v = 1 := by omega
  rcases this with rfl | rfl <;> omega
 rw [e1, e2]
 refine ⟨?_, by omega, by omega⟩
 subst h
 omega
theorem pt_step {M c hi lo q left : Nat} {over : Bool} (hc : c ≤ 9223372036854775808) (h : PtOk M c hi lo q left over) :
  left * 2 + hi / 9223372036854775808 < 18446744073709551616 ∧ q * 2 % 18446744073709551616 + 1 < 18446744073709551616 ∧ q < 18446744073709551616 ∧ left < 9223372036854775808 ∧ hi < 18446744073709551616 ∧ lo < 18446744073709551616 ∧ hi / 9223372036854775808 < 2 ∧ hi * 2 % 18446744073709551616 + lo / 9223372036854775808 < 18446744073709551616 ∧
  (c ≤ left * 2 + hi / 9223372036854775808 → PtOk (2 * M) c (hi * 2 % 18446744073709551616 + lo / 9223372036854775808) (lo * 2 % 18446744073709551616) (q * 2 % 18446744073709551616 + 1) (left * 2 + hi / 9223372036854775808 - c) (over || (q / 9223372036854775808 == 1))) ∧
  (left * 2 + hi / 9223372036854775808 < c → PtOk (2 * M) c (hi * 2 % 18446744073709551616 + lo / 9223372036854775808) (lo * 2 % 18446744073709551616) (q * 2 % 18446744073709551616) (left * 2 + hi / 9223372036854775808) (over || (q / 9223372036854775808 == 1))) := by
 obtain ⟨T, Q, hM, hh, hl, hT, hlc, hq, ho⟩ := h
 obtain ⟨b1, b2, b3⟩ := pt_bits M T hi lo hM hh hl
 have hb : hi / 9223372036854775808 < 2 := by omega
 have hov := pt_over Q
 have hqlt : q < 18446744073709551616 := by rw [hq]; exact Nat.mod_lt _ (by omega)
 have hq2 : q * 2 % 18446744073709551616 = 2 * Q % 18446744073709551616 := by rw [hq]; omega
 have hq3 : 2 * Q % 18446744073709551616 + 1 < 18446744073709551616 := by omega
 have hq4 : (2 * Q + 1) % 18446744073709551616 = 2 * Q % 18446744073709551616 + 1 := by omega
 have hT2 : c * (2 * Q) = 2 * (c * Q) := by rw [Nat.mul_left_comm]
 have hT3 : c * (2 * Q + 1) = 2 * (c * Q) + c := by rw [Nat.mul_add, hT2, Nat.mul_one]
 refine ⟨by omega, by omega, hqlt, by omega, hh, hl, hb, b2, fun hge => ?_, fun hlt => ?_⟩
 ·refine ⟨2 * T + hi / 9223372036854775808, 2 * Q + 1, b1, b2, b3, ?_, ?_, ?_, ?_⟩
  ·rw [hT3]
   generalize hi / 9223372036854775808 = u at *
   generalize c * Q = P at *
   omega
  ·omega
  ·rw [hq4, hq2]
  ·rw [ho, hq]
   exact hov.2
 ·refine ⟨2 * T + hi / 9223372036854775808, 2 * Q, b1, b2, b3, ?_, ?_, ?_, ?_⟩
  ·rw [hT2]
   generalize hi / 9223372036854775808 = u at *
   generalize c * Q = P at *
   omega
  ·exact hlt
  ·exact hq2
  ·rw [ho, hq]
   exact hov.1
theorem pt_end {N c hi lo q left : Nat} {over : Bool} (hc : 0 < c) (h : PtOk (N * 340282366920938463463374607431768211456) c hi lo q left over) : q = N / c % 18446744073709551616 ∧ left = N % c ∧ over = decide (18446744073709551616 ≤ N / c) := by
 obtain ⟨T, Q, hM, hh, hl, hT, hlc, hq, ho⟩ := h
 have e : T = N := by omega
 subst e
 have e1 : T / c = Q := by
  rw [hT, Nat.mul_add_div hc, Nat.div_eq_of_lt hlc, Nat.add_zero]
 have e2 : T % c = left := by
  rw [hT, Nat.mul_add_mod, Nat.mod_eq_of_lt hlc]
 rw [e1, e2]
 exact ⟨hq, rfl, ho⟩
theorem times_core (a b a0 a1 b0 b1 : Nat) (ha : a = a1 * 4294967296 + a0) (hb : b = b1 * 4294967296 + b0) (h0 : a0 < 4294967296) (h1 : a1 < 4294967296) (h2 : b0 < 4294967296) (h3 : b1 < 4294967296) (x y z : Nat) (hx : x = a0 * b0) (hy : y = a1 * b0 + x / 4294967296) (hz : z = a0 * b1 + y % 4294967296) :
  x < 18446744073709551616 ∧ y < 18446744073709551616 ∧ z < 18446744073709551616 ∧ a1 * b1 + y / 4294967296 + z / 4294967296 < 18446744073709551616 ∧ z * 4294967296 % 18446744073709551616 + x % 4294967296 < 18446744073709551616 ∧
  a * b = (a1 * b1 + y / 4294967296 + z / 4294967296) * 18446744073709551616 + (z * 4294967296 % 18446744073709551616 + x % 4294967296) ∧ a1 * b1 < 18446744073709551616 ∧ a1 * b0 < 18446744073709551616 ∧ a0 * b1 < 18446744073709551616 := by
 have m : ∀ p q : Nat, p < 4294967296 → q < 4294967296 → p * q ≤ 18446744065119617025 := fun p q hp hq => Nat.mul_le_mul (show p ≤ 4294967295 by omega) (show q ≤ 4294967295 by omega)
 have m00 := m a0 b0 h0 h2
 have m10 := m a1 b0 h1 h2
 have m01 := m a0 b1 h0 h3
 have m11 := m a1 b1 h1 h3
 have e : a * b = a1 * b1 * 18446744073709551616 + (a1 * b0 + a0 * b1) * 4294967296 + a0 * b0 := by
  subst ha hb
  rw [Nat.add_mul, Nat.mul_add, Nat.mul_add]
  have e1 : a1 * 4294967296 * (b1 * 4294967296) = a1 * b1 * 18446744073709551616 := by rw [Nat.mul_mul_mul_comm]
  have e2 : a1 * 4294967296 * b0 = a1 * b0 * 4294967296 := by rw [Nat.mul_right_comm]
  have e3 : a0 * (b1 * 4294967296) = a0 * b1 * 4294967296 := by rw [Nat.mul_assoc]
  rw [e1, e2, e3]
  omega
 rw [e]
 generalize a1 * b1 = p11 at *
 generalize a1 * b0 = p10 at *
 generalize a0 * b1 = p01 at *
 generalize a0 * b0 = p00 at *
 clear ha hb e
 subst hx
 have dx : x = 4294967296 * (x / 4294967296) + x % 4294967296 := (Nat.div_add_mod _ _).symm
 have dx2 : x % 4294967296 < 4294967296 := Nat.mod_lt _ (by omega)
 generalize x / 4294967296 = xq at *
 generalize x % 4294967296 = xr at *
 have dy : y = 4294967296 * (y / 4294967296) + y % 4294967296 := (Nat.div_add_mod _ _).symm
 have dy2 : y % 4294967296 < 4294967296 := Nat.mod_lt _ (by omega)
 generalize y / 4294967296 = yq at *
 generalize y % 4294967296 = yr at *
 have dz : z = 4294967296 * (z / 4294967296) + z % 4294967296 := (Nat.div_add_mod _ _).symm
 have dz2 : z % 4294967296 < 4294967296 := Nat.mod_lt _ (by omega)
 have ez : z * 4294967296 % 18446744073709551616 = z % 4294967296 * 4294967296 := by omega
 rw [ez]
 generalize z / 4294967296 = zq at *
 generalize z % 4294967296 = zr at *
 refine ⟨by omega, by omega, by omega, by omega, by omega, by omega, by omega, by omega, by omega⟩
end Go.Proofs.Ytgakmnholegbgaa.B
end
section
namespace Go.Proofs.Ytgakmnholegbgaa.B
open Go.RowKit Go.Proofs.YtgakmnholegbgaaW.PrintWords Go.Proofs.YtgakmnholegbgaaW.PrintLast Go.Proofs.YtgakmnholegbgaaW.PrintMore
set_option linter.unusedVariables false
set_option linter.unusedSimpArgs false
theorem rsize_any (a : Int) (ha : I64 a) (w : World) : Calls Try.prog 81 #[.int .i64 a] w fun e w' => e = .returned (.int .u64 ((a.natAbs : Nat) : Int)) ∧ w' = w := by
 have h0 := ha.1
 have h1 := ha.2
 clear ha
 by_cases h : a < 0
 ·go_enter Try.func81, Try.ntmps81
  go_wp2
  all_goals go_ret
  refine ⟨ret_int ?_, rfl⟩
  omega
 ·go_enter Try.func81, Try.ntmps81
  go_wp2
  all_goals go_ret
  refine ⟨ret_int ?_, rfl⟩
  omega
set_option maxHeartbeats 1000000 in
theorem times_walk (a b : Nat) (ha : a < 18446744073709551616) (hb : b < 18446744073709551616) (w : World) : Calls Try.prog 80 #[.int .u64 (a : Int), .int .u64 (b : Int)] w fun e w' => e = .returned (.agg #[.int .u64 ((a * b / 18446744073709551616 : Nat) : Int), .int .u64 ((a * b % 18446744073709551616 : Nat) : Int)]) ∧ Below w.heap.size w w' := by
 obtain ⟨c1, c2, c3, c4, c5, c6, c7, c8, c9⟩ := times_core a b (a % 4294967296) (a / 4294967296) (b % 4294967296) (b / 4294967296) (by omega) (by omega) (by omega) (by omega) (by omega) (by omega) _ _ _ rfl rfl rfl
 have c10 : a / 4294967296 * (b / 4294967296) + (a / 4294967296 * (b % 4294967296) + a % 4294967296 * (b % 4294967296) / 4294967296) / 4294967296 < 18446744073709551616 := Nat.lt_of_le_of_lt (Nat.le_add_right _ _) c4
 have hH : (a / 4294967296 * (b / 4294967296) + (a / 4294967296 * (b % 4294967296) + a % 4294967296 * (b % 4294967296) / 4294967296) / 4294967296 + (a % 4294967296 * (b / 4294967296) + (a / 4294967296 * (b % 4294967296) + a % 4294967296 * (b % 4294967296) / 4294967296) % 4294967296) / 4294967296) = a * b / 18446744073709551616 := by
  rw [c6]
  generalize (a % 4294967296 * (b / 4294967296) + (a / 4294967296 * (b % 4294967296) + a % 4294967296 * (b % 4294967296) / 4294967296) % 4294967296) * 4294967296 % 18446744073709551616 + a % 4294967296 * (b % 4294967296) % 4294967296 = L at *
  omega
 have hL : ((a % 4294967296 * (b / 4294967296) + (a / 4294967296 * (b % 4294967296) + a % 4294967296 * (b % 4294967296) / 4294967296) % 4294967296) * 4294967296 % 18446744073709551616 + a % 4294967296 * (b % 4294967296) % 4294967296) = a * b % 18446744073709551616 := by
  rw [c6]
  generalize (a % 4294967296 * (b / 4294967296) + (a / 4294967296 * (b % 4294967296) + a % 4294967296 * (b % 4294967296) / 4294967296) % 4294967296) * 4294967296 % 18446744073709551616 + a % 4294967296 * (b % 4294967296) % 4294967296 = L at *
  omega
 have E32 : (4294967296 : Int) = ((4294967296 : Nat) : Int) := rfl
 have HC := Aside0.mk (And.intro c1 (And.intro c2 (And.intro c3 (And.intro c4 (And.intro c5 (And.intro c7 (And.intro c8 (And.intro c9 (And.intro c10 (And.intro hH hL))))))))))
 clear c1 c2 c3 c4 c5 c6 c7 c8 c9 c10 hH hL E32
 go_enter Try.func80, Try.ntmps80
 go_wp2
 obtain ⟨c1, c2, c3, c4, c5, c7, c8, c9, c10, hH, hL⟩ := HC.out
 have mul32 : ∀ n : Nat, (n : Int) * 4294967296 = ((n * 4294967296 : Nat) : Int) := fun n => (Int.natCast_mul n 4294967296).symm
 simp only [maskN a ha, maskN b hb, divN, mulN, addN, wrapN _ c1, wrapN _ c8, wrapN _ c2, maskN _ c2, wrapN _ c9, wrapN _ c3, wrapN _ c7, wrapN _ c10, wrapN _ c4, maskN _ c1, mul32, wrapM, addN, wrapN _ c5]
 simp only [Nat.mod_eq_of_lt c1, Nat.mod_eq_of_lt c2, Nat.mod_eq_of_lt c3, Nat.mod_eq_of_lt c4, Nat.mod_eq_of_lt c5, Nat.mod_eq_of_lt c7, Nat.mod_eq_of_lt c8, Nat.mod_eq_of_lt c9, Nat.mod_eq_of_lt c10, hH, hL]
 generalize ((a * b / 18446744073709551616 : Nat) : Int) = H
 generalize ((a * b % 18446744073709551616 : Nat) : Int) = L
 refine bodyPost_ret (v := .agg #[.int .u64 H, .int .u64 L]) (by simp [results, Try.results80, go_sem]) rfl ⟨rfl, ?_⟩
 repeat (first | exact Below.refl _ _ | refine Below.setCell ?_ (by simp) _ | refine Below.alloc ?_ (by simp) _)
def PtAt (w : World) (b2 b5 : Nat) (hi lo q left : Int) (over : Bool) : Prop := w.heap[b2]? = some (.cells #[.int .u64 hi, .int .u64 lo] 161 (0, 0)) ∧ w.heap[b5]? = some (.cells #[.int .u64 q, .bool over, .int .u64 left] 158 (0, 0))
theorem pt_w5 {wr : World} {b2 b5 : Nat} {hi lo q left : Int} {over : Bool} (h : PtAt wr b2 b5 hi lo q left over) (n25 : b2 ≠ b5) (n52 : b5 ≠ b2) (x0 x1 l' q' : Int) (o' : Bool) :
  PtAt (((((wr.setCell ⟨b2, 0, none⟩ (.int .u64 x0)).setCell ⟨b2, 1, none⟩ (.int .u64 x1)).setCell ⟨b5, 2, none⟩ (.int .u64 l')).setCell ⟨b5, 1, none⟩ (.bool o')).setCell ⟨b5, 0, none⟩ (.int .u64 q')) b2 b5 x0 x1 q' l' o' := by
 obtain ⟨h2, h5⟩ := h
 constructor
 ·rw [Below.heap_setCell _ _ _ _ n25, Below.heap_setCell _ _ _ _ n25, Below.heap_setCell _ _ _ _ n25]
  have := blk_set (blk_set h2 0 (.int .u64 x0)) 1 (.int .u64 x1)
  simpa using this
 ·have hb : ((wr.setCell ⟨b2, 0, none⟩ (.int .u64 x0)).setCell ⟨b2, 1, none⟩ (.int .u64 x1)).heap[b5]? = some (.cells #[.int .u64 q, .bool over, .int .u64 left] 158 (0, 0)) := by
   rw [Below.heap_setCell _ _ _ _ n52, Below.heap_setCell _ _ _ _ n52]
   exact h5
  have := blk_set (blk_set (blk_set hb 2 (.int .u64 l')) 1 (.bool o')) 0 (.int .u64 q')
  simpa using this
theorem pt_w2 {wr : World} {b2 b5 : Nat} {hi lo q left : Int} {over : Bool} (h : PtAt wr b2 b5 hi lo q left over) (n25 : b2 ≠ b5) (l' q' : Int) :
  PtAt ((wr.setCell ⟨b5, 2, none⟩ (.int .u64 l')).setCell ⟨b5, 0, none⟩ (.int .u64 q')) b2 b5 hi lo q' l' over := by
 obtain ⟨h2, h5⟩ := h
 constructor
 ·rw [Below.heap_setCell _ _ _ _ n25, Below.heap_setCell _ _ _ _ n25]
  exact h2
 ·have := blk_set (blk_set h5 2 (.int .u64 l')) 0 (.int .u64 q')
  simpa using this
theorem w5_at {wr : World} {b2 b5 i : Nat} (n2 : i ≠ b2) (n5 : i ≠ b5) (u0 u1 u2 u3 u4 : Value) : (((((wr.setCell ⟨b2, 0, none⟩ u0).setCell ⟨b2, 1, none⟩ u1).setCell ⟨b5, 2, none⟩ u2).setCell ⟨b5, 1, none⟩ u3).setCell ⟨b5, 0, none⟩ u4).heap[i]? = wr.heap[i]? := by
 rw [Below.heap_setCell _ _ _ _ n5, Below.heap_setCell _ _ _ _ n5, Below.heap_setCell _ _ _ _ n5, Below.heap_setCell _ _ _ _ n2, Below.heap_setCell _ _ _ _ n2]
theorem w2_at {wr : World} {b5 i : Nat} (n5 : i ≠ b5) (u0 u1 : Value) : ((wr.setCell ⟨b5, 2, none⟩ u0).setCell ⟨b5, 0, none⟩ u1).heap[i]? = wr.heap[i]? := by
 rw [Below.heap_setCell _ _ _ _ n5, Below.heap_setCell _ _ _ _ n5]
theorem w5_below {B : Nat} {w wr : World} {b2 b5 : Nat} (h : Below B w wr) (g2 : B ≤ b2) (g5 : B ≤ b5) (u0 u1 u2 u3 u4 : Value) : Below B w (((((wr.setCell ⟨b2, 0, none⟩ u0).setCell ⟨b2, 1, none⟩ u1).setCell ⟨b5, 2, none⟩ u2).setCell ⟨b5, 1, none⟩ u3).setCell ⟨b5, 0, none⟩ u4) :=
 ((((h.setCell (p := ⟨b2, 0, none⟩) g2 _).setCell (p := ⟨b2, 1, none⟩) g2 _).setCell (p := ⟨b5, 2, none⟩) g5 _).setCell (p := ⟨b5, 1, none⟩) g5 _).setCell (p := ⟨b5, 0, none⟩) g5 _
theorem w2_below {B : Nat} {w wr : World} {b5 : Nat} (h : Below B w wr) (g5 : B ≤ b5) (u0 u1 : Value) : Below B w ((wr.setCell ⟨b5, 2, none⟩ u0).setCell ⟨b5, 0, none⟩ u1) :=
 (h.setCell (p := ⟨b5, 2, none⟩) g5 _).setCell (p := ⟨b5, 0, none⟩) g5 _
theorem q_top (q : Nat) : ((q : Int) / 9223372036854775808 == 1) = (q / 9223372036854775808 == 1) := by
 by_cases h : q / 9223372036854775808 = 1
 ·have hI : (q : Int) / 9223372036854775808 = 1 := by omega
  rw [hI, h]
  rfl
 ·have hI : (q : Int) / 9223372036854775808 ≠ 1 := by omega
  rw [beq_eq_false_iff_ne.2 hI, beq_eq_false_iff_ne.2 h]
theorem pt_vals (hi lo q left : Nat) (p2 : q * 2 % 18446744073709551616 + 1 < 18446744073709551616) (p8 : hi * 2 % 18446744073709551616 + lo / 9223372036854775808 < 18446744073709551616) :
  IntKind.u64.wrap (IntKind.u64.wrap ((hi : Int) * 2) + (lo : Int) / 9223372036854775808) = ((hi * 2 % 18446744073709551616 + lo / 9223372036854775808 : Nat) : Int) ∧ IntKind.u64.wrap ((lo : Int) * 2) = ((lo * 2 % 18446744073709551616 : Nat) : Int) ∧ (left : Int) * 2 + (hi : Int) / 9223372036854775808 = ((left * 2 + hi / 9223372036854775808 : Nat) : Int) ∧
  IntKind.u64.wrap ((q : Int) * 2) = ((q * 2 % 18446744073709551616 : Nat) : Int) ∧ IntKind.u64.wrap (IntKind.u64.wrap ((q : Int) * 2) + 1) = ((q * 2 % 18446744073709551616 + 1 : Nat) : Int) := by
 simp only [IntKind.wrap_u64]
 refine ⟨by omega, by omega, by omega, by omega, by omega⟩
def PtRel (w : World) (b2 b4 b5 N c : Nat) (v6 : Value) (wr : World) : Prop :=
 ∃ (k hi lo q left : Nat) (over : Bool), v6 = .int .i64 (127 - (k : Int)) ∧ k ≤ 128 ∧ Aside0 (PtOk (N * 2 ^ k) c hi lo q left over) ∧ Aside0 (PtAt wr b2 b5 hi lo q left over) ∧ Aside0 (Below w.heap.size w wr) ∧ Aside0 (wr.heap[b4]? = some (.cells #[.int .u64 0, .bool false, .int .u64 0] 158 (0, 0)))
set_option maxHeartbeats 4000000 in
theorem part_walk (hi lo c : Nat) (h0 : hi < 18446744073709551616) (h1 : lo < 18446744073709551616) (hc0 : 0 < c) (hc : c ≤ 9223372036854775808) (w : World) : Calls Try.prog 79 #[.agg #[.int .u64 (hi : Int), .int .u64 (lo : Int)], .int .u64 (c : Int)] w fun e w' =>
  e = .returned (.agg #[.int .u64 (((hi * 18446744073709551616 + lo) / c % 18446744073709551616 : Nat) : Int), .bool (decide (18446744073709551616 ≤ (hi * 18446744073709551616 + lo) / c)), .int .u64 (((hi * 18446744073709551616 + lo) % c : Nat) : Int)]) ∧ Below w.heap.size w w' := by
 have HP := Aside0.mk (pt_start hi lo c hc0 h0 h1)
 obtain ⟨N, hN⟩ : ∃ N, N = hi * 18446744073709551616 + lo := ⟨_, rfl⟩
 rw [← hN] at HP ⊢
 have HN := Aside0.mk hN
 clear hN
 go_enter Try.func79, Try.ntmps79
 go_wp2_with fail
 have hB0 : Aside0 (Below w.heap.size w (((w.alloc (.cells #[.int .u64 (hi : Int), .int .u64 (lo : Int)] 161)).alloc (.cells #[.int .u64 0, .bool false, .int .u64 0] 158)).alloc (.cells #[.int .u64 0, .bool false, .int .u64 0] 158))) := ⟨(((Below.refl _ _).alloc (Nat.le_refl _) _).alloc (by simp) _).alloc (by simp; omega) _⟩
 have A2 := below_alloc (below_alloc (Below.refl _ (w.alloc (.cells #[.int .u64 (hi : Int), .int .u64 (lo : Int)] 161))) (.cells #[.int .u64 0, .bool false, .int .u64 0] 158)) (.cells #[.int .u64 0, .bool false, .int .u64 0] 158)
 have P2 := (A2.block w.heap.size (by simp)).trans (blk_new w (.cells #[.int .u64 (hi : Int), .int .u64 (lo : Int)] 161))
 have P4 := blk_new (w.alloc (.cells #[.int .u64 (hi : Int), .int .u64 (lo : Int)] 161)) (.cells #[.int .u64 0, .bool false, .int .u64 0] 158)
 have P5 := blk_new ((w.alloc (.cells #[.int .u64 (hi : Int), .int .u64 (lo : Int)] 161)).alloc (.cells #[.int .u64 0, .bool false, .int .u64 0] 158)) (.cells #[.int .u64 0, .bool false, .int .u64 0] 158)
 obtain ⟨b2, hb2⟩ : ∃ b, b = w.heap.size := ⟨_, rfl⟩
 obtain ⟨b4, hb4⟩ : ∃ b, b = w.heap.size + 1 := ⟨_, rfl⟩
 obtain ⟨b5, hb5⟩ : ∃ b, b = w.heap.size + 1 + 1 := ⟨_, rfl⟩
 have P4' : (((w.alloc (.cells #[.int .u64 (hi : Int), .int .u64 (lo : Int)] 161)).alloc (.cells #[.int .u64 0, .bool false, .int .u64 0] 158)).alloc (.cells #[.int .u64 0, .bool false, .int .u64 0] 158)).heap[b4]? = some (.cells #[.int .u64 0, .bool false, .int .u64 0] 158 (0, 0)) := by
  rw [hb4]
  exact ((below_alloc (Below.refl _ _) _).block _ (by simp)).trans (by simpa using P4)
 have P5' : (((w.alloc (.cells #[.int .u64 (hi : Int), .int .u64 (lo : Int)] 161)).alloc (.cells #[.int .u64 0, .bool false, .int .u64 0] 158)).alloc (.cells #[.int .u64 0, .bool false, .int .u64 0] 158)).heap[b5]? = some (.cells #[.int .u64 0, .bool false, .int .u64 0] 158 (0, 0)) := by
  rw [hb5]
  simpa using P5
 rw [← hb2] at P2
 rw [← hb5, ← hb4, ← hb2]
 clear A2 P4 P5
 generalize ((w.alloc (.cells #[.int .u64 (hi : Int), .int .u64 (lo : Int)] 161)).alloc (.cells #[.int .u64 0, .bool false, .int .u64 0] 158)).alloc (.cells #[.int .u64 0, .bool false, .int .u64 0] 158) = w5 at *
 have HP4 := Aside0.mk P4'
 have HPA : Aside0 (PtAt w5 b2 b5 hi lo 0 0 false) := ⟨P2, P5'⟩
 have n25 : b2 ≠ b5 := by omega
 have n52 : b5 ≠ b2 := by omega
 have n24 : b2 ≠ b4 := by omega
 have n45 : b5 ≠ b4 := by omega
 have g2 : w.heap.size ≤ b2 := by omega
 have g5 : w.heap.size ≤ b5 := by omega
 have g4 : w.heap.size ≤ b4 := by omega
 clear P2 P4' P5' hb2 hb4 hb5 h0 h1
 go_loopw [6] (fun v6 wr => PtRel w b2 b4 b5 N c v6 wr) (fun v _ => (intOf v + 1).toNat)
 case atStart => exact ⟨0, hi, lo, 0, 0, false, rfl, by omega, ⟨by simpa using HP.out⟩, HPA, hB0, HP4⟩
 case round =>
  obtain ⟨k, hi', lo', q, left, over, rfl, hk, hP, hA, hB, h4⟩ := hrel
  by_cases hlt : k < 128
  ·have k1 : decide (0 ≤ 127 - (k : Int)) = true := by simp; omega
   have c0 := blk_cell hA.out.1 0
   have c1 := blk_cell hA.out.1 1
   have d0 := blk_cell hA.out.2 0
   have d1 := blk_cell hA.out.2 1
   have d2 := blk_cell hA.out.2 2
   have fc0 := blk_frozen hA.out.1 0
   have fc1 := blk_frozen hA.out.1 1
   have fd0 := blk_frozen hA.out.2 0
   have fd1 := blk_frozen hA.out.2 1
   have fd2 := blk_frozen hA.out.2 2
   simp only [List.getElem?_toArray, List.getElem?_cons_zero, List.getElem?_cons_succ] at c0 c1 d0 d1 d2
   obtain ⟨p1, p2, p3, p4, p5, p6, p7, p8, pge, plt⟩ := pt_step hc hP.out
   have hpow : 2 * (N * 2 ^ k) = N * 2 ^ (k + 1) := by rw [Nat.pow_succ, Nat.mul_left_comm 2 N, Nat.mul_comm 2]
   rw [hpow] at pge plt
   have PG := Aside0.mk pge
   have PL := Aside0.mk plt
   obtain ⟨e1, e2, e3, e4, e5⟩ := pt_vals hi' lo' q left p2 p8
   have EE := Aside0.mk (And.intro e1 (And.intro e2 (And.intro e3 (And.intro e4 e5))))
   have n42 : b4 ≠ b2 := Ne.symm n24
   have n54 : b4 ≠ b5 := Ne.symm n45
   clear pge plt e1 e2 e3 e4 e5 hpow
   have fin : ∀ o' : Bool, o' = (over || (q / 9223372036854775808 == 1)) → (left * 2 + hi' / 9223372036854775808 < c → PtRel w b2 b4 b5 N c (.int .i64 (127 - (k : Int) - 1)) (((((wr.setCell ⟨b2, 0, none⟩ (.int .u64 (IntKind.u64.wrap (IntKind.u64.wrap ((hi' : Int) * 2) + (lo' : Int) / 9223372036854775808)))).setCell ⟨b2, 1, none⟩ (.int .u64 (IntKind.u64.wrap ((lo' : Int) * 2)))).setCell ⟨b5, 2, none⟩ (.int .u64 ((left : Int) * 2 + (hi' : Int) / 9223372036854775808))).setCell ⟨b5, 1, none⟩ (.bool o')).setCell ⟨b5, 0, none⟩ (.int .u64 (IntKind.u64.wrap ((q : Int) * 2))))) ∧
    (c ≤ left * 2 + hi' / 9223372036854775808 → PtRel w b2 b4 b5 N c (.int .i64 (127 - (k : Int) - 1)) (((((((wr.setCell ⟨b2, 0, none⟩ (.int .u64 (IntKind.u64.wrap (IntKind.u64.wrap ((hi' : Int) * 2) + (lo' : Int) / 9223372036854775808)))).setCell ⟨b2, 1, none⟩ (.int .u64 (IntKind.u64.wrap ((lo' : Int) * 2)))).setCell ⟨b5, 2, none⟩ (.int .u64 ((left : Int) * 2 + (hi' : Int) / 9223372036854775808))).setCell ⟨b5, 1, none⟩ (.bool o')).setCell ⟨b5, 0, none⟩ (.int .u64 (IntKind.u64.wrap ((q : Int) * 2)))).setCell ⟨b5, 2, none⟩ (.int .u64 ((left : Int) * 2 + (hi' : Int) / 9223372036854775808 - (c : Int)))).setCell ⟨b5, 0, none⟩ (.int .u64 (IntKind.u64.wrap (IntKind.u64.wrap ((q : Int) * 2) + 1))))) := by
    intro o' ho
    obtain ⟨e1, e2, e3, e4, e5⟩ := EE.out
    subst ho
    constructor
    ·intro hl
     rw [e1, e2, e3, e4]
     exact ⟨k + 1, _, _, _, _, _, congrArg (Value.int .i64) (by omega), by omega, ⟨PL.out hl⟩, ⟨pt_w5 hA.out n25 n52 _ _ _ _ _⟩, ⟨w5_below hB.out g2 g5 _ _ _ _ _⟩, ⟨(w5_at n42 n54 _ _ _ _ _).trans h4.out⟩⟩
    ·intro hl
     have e6 : ((left * 2 + hi' / 9223372036854775808 : Nat) : Int) - (c : Int) = ((left * 2 + hi' / 9223372036854775808 - c : Nat) : Int) := by omega
     rw [e5, e1, e2, e3, e4, e6]
     exact ⟨k + 1, _, _, _, _, _, congrArg (Value.int .i64) (by omega), by omega, ⟨PG.out hl⟩, ⟨pt_w2 (pt_w5 hA.out n25 n52 _ _ _ _ _) n25 _ _⟩, ⟨w2_below (w5_below hB.out g2 g5 _ _ _ _ _) g5 _ _⟩, ⟨(w2_at n54 _ _).trans ((w5_at n42 n54 _ _ _ _ _).trans h4.out)⟩⟩
   have FIN := Aside0.mk fin
   clear fin
   cases over with
   | true =>
    go_wp2_with fail
    ·exact ⟨(FIN.out true (by simp)).2 (by omega), by simp [intOf]; omega⟩
    ·exact ⟨(FIN.out true (by simp)).1 (by omega), by simp [intOf]; omega⟩
   | false =>
    generalize hq : (q / 9223372036854775808 == 1) = z at FIN
    have hq2 := (q_top q).trans hq
    clear hq
    cases z with
    | true =>
     go_wp2_with fail
     ·exact ⟨(FIN.out true rfl).2 (by omega), by simp [intOf]; omega⟩
     ·exact ⟨(FIN.out true rfl).1 (by omega), by simp [intOf]; omega⟩
    | false =>
     go_wp2_with fail
     ·exact ⟨(FIN.out false rfl).2 (by omega), by simp [intOf]; omega⟩
     ·exact ⟨(FIN.out false rfl).1 (by omega), by simp [intOf]; omega⟩
  ·have k1 : decide (0 ≤ 127 - (k : Int)) = false := by simp; omega
   have hk2 : k = 128 := by omega
   subst hk2
   have d0 := blk_cell hA.out.2 0
   have d1 := blk_cell hA.out.2 1
   have d2 := blk_cell hA.out.2 2
   have e0 := blk_cell h4.out 0
   have e1 := blk_cell h4.out 1
   have e2 := blk_cell h4.out 2
   have f0 := blk_frozen h4.out 0
   have f1 := blk_frozen h4.out 1
   have f2 := blk_frozen h4.out 2
   simp only [List.getElem?_toArray, List.getElem?_cons_zero, List.getElem?_cons_succ] at d0 d1 d2 e0 e1 e2
   have hP2 := hP.out
   rw [show (2 : Nat) ^ 128 = 340282366920938463463374607431768211456 by rfl] at hP2
   obtain ⟨z1, z2, z3⟩ := pt_end hc0 hP2
   have HZ := Aside0.mk (And.intro z1 (And.intro z2 z3))
   clear z1 z2 z3 hP2 hk hlt
   go_wp2_with fail
   refine bodyPost_ret (v := .agg #[.int .u64 (q : Int), .bool over, .int .u64 (left : Int)]) (by simp [results, Try.results79, go_sem, e0, e1, e2]) rfl ⟨?_, ?_⟩
   ·obtain ⟨z1, z2, z3⟩ := HZ.out
    rw [z1, z2, z3]
   ·exact ((hB.out.setCell (p := ⟨b4, 0, none⟩) g4 _).setCell (p := ⟨b4, 1, none⟩) g4 _).setCell (p := ⟨b4, 2, none⟩) g4 _
end Go.Proofs.Ytgakmnholegbgaa.B
end
section
namespace Go.Proofs.Ytgakmnholegbgaa.B
open Go.RowKit Go.Proofs.YtgakmnholegbgaaW.PrintWords Go.Proofs.YtgakmnholegbgaaW.PrintLast Go.Proofs.YtgakmnholegbgaaW.PrintMore
set_option linter.unusedVariables false
set_option linter.unusedSimpArgs false
def DidIs (below : Bool) (Z : Int) (w : World) (e : Ending) (w' : World) : Prop :=
 (∃ ok : Bool, e = .returned (.agg #[.int .i64 (hold (if below = true then -Z else Z)), .bool ok])) ∧ Below w.heap.size w w'
theorem did_fin {below ok : Bool} {Z V : Int} {w w' : World} (h : hold (if below = true then -Z else Z) = V) (hB : Below w.heap.size w w') : DidIs below Z w (.returned (.agg #[.int .i64 V, .bool ok])) w' := ⟨⟨ok, by rw [h]⟩, hB⟩
theorem Below.cast' {g : Nat} {w w' : World} (h : Below g w w') (hg : g = w.heap.size) : Below w.heap.size w w' := hg ▸ h
set_option maxHeartbeats 4000000 in
set_option maxRecDepth 100000 in
theorem did_walk (a b c how SA SB SC T0 T1 Q L Z : Int) (over below U : Bool) (w : World) (hc : (c == 0) = false) (h1 : decide (how < 1) = false) (h3 : decide (3 < how) = false)
  (hbelow : (!(!decide (a < 0) == decide (b < 0)) == decide (c < 0)) = below) (hQ0 : 0 ≤ Q) (hQ1 : Q < 18446744073709551616)
  (hZ : Aside0 ((over = true → 18446744073709551616 ≤ Z) ∧ (over = false → Z = Q + (if U = true then 1 else 0))))
  (hU : ((L == 0) = true ∧ U = false) ∨ ((L == 0) = false ∧ (how == 1) = true ∧ U = below) ∨ ((L == 0) = false ∧ (how == 1) = false ∧ (how == 3) = true ∧ U = !below) ∨ ((L == 0) = false ∧ (how == 1) = false ∧ (how == 3) = false ∧ below = true ∧ decide (IntKind.u64.wrap (SC - L) < L) = U) ∨ ((L == 0) = false ∧ (how == 1) = false ∧ (how == 3) = false ∧ below = false ∧ decide (IntKind.u64.wrap (SC - L) ≤ L) = U))
  (H1 : Aside0 (∀ w, Calls Try.prog 81 #[.int .i64 a] w fun e w' => e = .returned (.int .u64 SA) ∧ w' = w))
  (H2 : Aside0 (∀ w, Calls Try.prog 81 #[.int .i64 b] w fun e w' => e = .returned (.int .u64 SB) ∧ w' = w))
  (H3 : Aside0 (∀ w, Calls Try.prog 81 #[.int .i64 c] w fun e w' => e = .returned (.int .u64 SC) ∧ w' = w))
  (HT : Aside0 (∀ w, Calls Try.prog 80 #[.int .u64 SA, .int .u64 SB] w fun e w' => e = .returned (.agg #[.int .u64 T0, .int .u64 T1]) ∧ Below w.heap.size w w'))
  (HP : Aside0 (∀ w, Calls Try.prog 79 #[.agg #[.int .u64 T0, .int .u64 T1], .int .u64 SC] w fun e w' => e = .returned (.agg #[.int .u64 Q, .bool over, .int .u64 L]) ∧ Below w.heap.size w w')) :
  Calls Try.prog 71 #[.int .i64 a, .int .i64 b, .int .i64 c, .int .i64 how] w (DidIs below Z w) := by
 have HU := Aside0.mk hU
 clear hU
 go_enter Try.func71, Try.ntmps71
 go_wp2_with fail
 refine (H1.out _).mono ?_
 rintro e w1 ⟨rfl, rfl⟩
 go_wp2_with fail
 refine (H2.out _).mono ?_
 rintro e w1 ⟨rfl, rfl⟩
 go_wp2_with fail
 refine (HT.out _).mono ?_
 rintro e w2 ⟨rfl, hb2⟩
 have K2 := (hb2.block w.heap.size (by simp)).trans (blk_new w (.cells #[.int .i64 0, .bool false] 142))
 have B2 := ((Below.refl w.heap.size w).alloc (Nat.le_refl _) (.cells #[.int .i64 0, .bool false] 142)).trans (hb2.mono (by simp))
 go_wp2_with fail
 refine (H3.out _).mono ?_
 rintro e w1 ⟨rfl, rfl⟩
 go_wp2_with fail
 refine (HP.out _).mono ?_
 rintro e w3 ⟨rfl, hb3⟩
 have K3 := (below_alloc (Below.refl _ w3) (.cells #[.int .u64 Q, .bool over, .int .u64 L] 158)).block w.heap.size (Nat.lt_of_lt_of_le (blk_lt K2) hb3.size)
 have K4 := K3.trans ((hb3.block w.heap.size (blk_lt K2)).trans K2)
 have P4 := blk_new w3 (.cells #[.int .u64 Q, .bool over, .int .u64 L] 158)
 have B4 := (B2.trans (hb3.mono B2.size)).alloc (Nat.le_trans B2.size hb3.size) (.cells #[.int .u64 Q, .bool over, .int .u64 L] 158)
 obtain ⟨g8, hg8⟩ : ∃ g, g = w.heap.size := ⟨_, rfl⟩
 have B5 : Below g8 w (w3.alloc (.cells #[.int .u64 Q, .bool over, .int .u64 L] 158)) := by rw [hg8]; exact B4
 rw [← hg8] at K4
 have HG := Aside0.mk hg8
 obtain ⟨gp, hgp⟩ : ∃ g, g = w3.heap.size := ⟨_, rfl⟩
 rw [← hgp] at P4
 have hne : g8 ≠ gp := by have := blk_lt K2; have := hb3.size; omega
 have p0 := blk_cell P4 0
 have p1 := blk_cell P4 1
 have p2 := blk_cell P4 2
 simp only [List.getElem?_toArray, List.getElem?_cons_zero, List.getElem?_cons_succ] at p0 p1 p2
 clear hb2 hb3 K2 K3 B2 B4 P4
 have m0 := blk_cell K4 0
 have m1 := blk_cell K4 1
 have f0 := blk_frozen K4 0
 have f1 := blk_frozen K4 1
 simp only [List.getElem?_toArray, List.getElem?_cons_zero, List.getElem?_cons_succ] at m0 m1
 have HB := Aside0.mk B5
 clear K4 B5
 have hU := HU.out
 clear HU
 rcases hU with ⟨k1, rfl⟩ | ⟨k1, k2, rfl⟩ | ⟨k1, k2, k3, rfl⟩ | ⟨k1, k2, k3, rfl, k4⟩ | ⟨k1, k2, k3, rfl, k4⟩
 ·go_wp2_with fail
  rw [← hg8, ← hgp]
  clear hg8 hgp
  generalize w3.alloc (.cells #[.int .u64 Q, .bool over, .int .u64 L] 158) = w4 at *
  go_quiet (fail)
  have p0 : (w4.drewN nq).cell? ⟨gp, 0, none⟩ = some (.int .u64 Q) := p0
  have p1 : (w4.drewN nq).cell? ⟨gp, 1, none⟩ = some (.bool over) := p1
  have f0 : (w4.drewN nq).frozen? ⟨g8, 0, none⟩ = false := f0
  have f1 : (w4.drewN nq).frozen? ⟨g8, 1, none⟩ = false := f1
  have m0 : (w4.drewN nq).cell? ⟨g8, 0, none⟩ = some (.int .i64 0) := m0
  have m1 : (w4.drewN nq).cell? ⟨g8, 1, none⟩ = some (.bool false) := m1
  have HB : Aside0 (Below g8 w (w4.drewN nq)) := ⟨HB.out.trans ((pw_below_drewN (Below.refl _ _) nq).mono (by rw [HG.out]; exact HB.out.size))⟩
  generalize w4.drewN nq = w4 at *
  cases below with
  | false =>
   cases over with
   | false =>
    go_wp2_with fail
    all_goals (have hz := hZ.out; simp at hz)
    all_goals first
     | (refine bodyPost_ret (v := .agg #[.int .i64 (-9223372036854775808), .bool false]) (by simp [results, Try.results71, go_sem, m0, m1]; done) rfl (did_fin ?_ (Below.cast' ((HB.out.setCell (p := ⟨g8, 0, none⟩) (Nat.le_refl _) _).setCell (p := ⟨g8, 1, none⟩) (Nat.le_refl _) _) HG.out)); simp; unfold hold; (try unfold wrap64); omega)
     | (refine bodyPost_ret (v := .agg #[.int .i64 9223372036854775807, .bool false]) (by simp [results, Try.results71, go_sem, m0, m1]; done) rfl (did_fin ?_ (Below.cast' ((HB.out.setCell (p := ⟨g8, 0, none⟩) (Nat.le_refl _) _).setCell (p := ⟨g8, 1, none⟩) (Nat.le_refl _) _) HG.out)); simp; unfold hold; (try unfold wrap64); omega)
     | (refine bodyPost_ret (v := .agg #[.int .i64 Q, .bool true]) (by simp [results, Try.results71, go_sem, m0, m1]; done) rfl (did_fin ?_ (Below.cast' ((HB.out.setCell (p := ⟨g8, 0, none⟩) (Nat.le_refl _) _).setCell (p := ⟨g8, 1, none⟩) (Nat.le_refl _) _) HG.out)); simp; unfold hold; (try unfold wrap64); omega)
     | (refine bodyPost_ret (v := .agg #[.int .i64 (Q + 1), .bool true]) (by simp [results, Try.results71, go_sem, m0, m1]; done) rfl (did_fin ?_ (Below.cast' ((HB.out.setCell (p := ⟨g8, 0, none⟩) (Nat.le_refl _) _).setCell (p := ⟨g8, 1, none⟩) (Nat.le_refl _) _) HG.out)); simp; unfold hold; (try unfold wrap64); omega)
     | (refine bodyPost_ret (v := .agg #[.int .i64 (wrap64 (-wrap64 Q)), .bool true]) (by simp [results, Try.results71, go_sem, m0, m1]; done) rfl (did_fin ?_ (Below.cast' ((HB.out.setCell (p := ⟨g8, 0, none⟩) (Nat.le_refl _) _).setCell (p := ⟨g8, 1, none⟩) (Nat.le_refl _) _) HG.out)); simp; unfold hold; (try unfold wrap64); omega)
     | (refine bodyPost_ret (v := .agg #[.int .i64 (wrap64 (-wrap64 (Q + 1))), .bool true]) (by simp [results, Try.results71, go_sem, m0, m1]; done) rfl (did_fin ?_ (Below.cast' ((HB.out.setCell (p := ⟨g8, 0, none⟩) (Nat.le_refl _) _).setCell (p := ⟨g8, 1, none⟩) (Nat.le_refl _) _) HG.out)); simp; unfold hold; (try unfold wrap64); omega)
     | (refine bodyPost_ret (v := .agg #[.int .i64 (wrap64 Q), .bool true]) (by simp [results, Try.results71, go_sem, m0, m1]; done) rfl (did_fin ?_ (Below.cast' ((HB.out.setCell (p := ⟨g8, 0, none⟩) (Nat.le_refl _) _).setCell (p := ⟨g8, 1, none⟩) (Nat.le_refl _) _) HG.out)); simp; unfold hold; (try unfold wrap64); omega)
     | (refine bodyPost_ret (v := .agg #[.int .i64 (wrap64 (Q + 1)), .bool true]) (by simp [results, Try.results71, go_sem, m0, m1]; done) rfl (did_fin ?_ (Below.cast' ((HB.out.setCell (p := ⟨g8, 0, none⟩) (Nat.le_refl _) _).setCell (p := ⟨g8, 1, none⟩) (Nat.le_refl _) _) HG.out)); simp; unfold hold; (try unfold wrap64); omega)
   | true =>
    go_wp2_with fail
    all_goals (have hz := hZ.out; simp at hz)
    all_goals first
     | (refine bodyPost_ret (v := .agg #[.int .i64 (-9223372036854775808), .bool false]) (by simp [results, Try.results71, go_sem, m0, m1]; done) rfl (did_fin ?_ (Below.cast' ((HB.out.setCell (p := ⟨g8, 0, none⟩) (Nat.le_refl _) _).setCell (p := ⟨g8, 1, none⟩) (Nat.le_refl _) _) HG.out)); simp; unfold hold; (try unfold wrap64); omega)
     | (refine bodyPost_ret (v := .agg #[.int .i64 9223372036854775807, .bool false]) (by simp [results, Try.results71, go_sem, m0, m1]; done) rfl (did_fin ?_ (Below.cast' ((HB.out.setCell (p := ⟨g8, 0, none⟩) (Nat.le_refl _) _).setCell (p := ⟨g8, 1, none⟩) (Nat.le_refl _) _) HG.out)); simp; unfold hold; (try unfold wrap64); omega)
     | (refine bodyPost_ret (v := .agg #[.int .i64 Q, .bool true]) (by simp [results, Try.results71, go_sem, m0, m1]; done) rfl (did_fin ?_ (Below.cast' ((HB.out.setCell (p := ⟨g8, 0, none⟩) (Nat.le_refl _) _).setCell (p := ⟨g8, 1, none⟩) (Nat.le_refl _) _) HG.out)); simp; unfold hold; (try unfold wrap64); omega)
     | (refine bodyPost_ret (v := .agg #[.int .i64 (Q + 1), .bool true]) (by simp [results, Try.results71, go_sem, m0, m1]; done) rfl (did_fin ?_ (Below.cast' ((HB.out.setCell (p := ⟨g8, 0, none⟩) (Nat.le_refl _) _).setCell (p := ⟨g8, 1, none⟩) (Nat.le_refl _) _) HG.out)); simp; unfold hold; (try unfold wrap64); omega)
     | (refine bodyPost_ret (v := .agg #[.int .i64 (wrap64 (-wrap64 Q)), .bool true]) (by simp [results, Try.results71, go_sem, m0, m1]; done) rfl (did_fin ?_ (Below.cast' ((HB.out.setCell (p := ⟨g8, 0, none⟩) (Nat.le_refl _) _).setCell (p := ⟨g8, 1, none⟩) (Nat.le_refl _) _) HG.out)); simp; unfold hold; (try unfold wrap64); omega)
     | (refine bodyPost_ret (v := .agg #[.int .i64 (wrap64 (-wrap64 (Q + 1))), .bool true]) (by simp [results, Try.results71, go_sem, m0, m1]; done) rfl (did_fin ?_ (Below.cast' ((HB.out.setCell (p := ⟨g8, 0, none⟩) (Nat.le_refl _) _).setCell (p := ⟨g8, 1, none⟩) (Nat.le_refl _) _) HG.out)); simp; unfold hold; (try unfold wrap64); omega)
     | (refine bodyPost_ret (v := .agg #[.int .i64 (wrap64 Q), .bool true]) (by simp [results, Try.results71, go_sem, m0, m1]; done) rfl (did_fin ?_ (Below.cast' ((HB.out.setCell (p := ⟨g8, 0, none⟩) (Nat.le_refl _) _).setCell (p := ⟨g8, 1, none⟩) (Nat.le_refl _) _) HG.out)); simp; unfold hold; (try unfold wrap64); omega)
     | (refine bodyPost_ret (v := .agg #[.int .i64 (wrap64 (Q + 1)), .bool true]) (by simp [results, Try.results71, go_sem, m0, m1]; done) rfl (did_fin ?_ (Below.cast' ((HB.out.setCell (p := ⟨g8, 0, none⟩) (Nat.le_refl _) _).setCell (p := ⟨g8, 1, none⟩) (Nat.le_refl _) _) HG.out)); simp; unfold hold; (try unfold wrap64); omega)
  | true =>
   cases over with
   | false =>
    go_wp2_with fail
    all_goals (have hz := hZ.out; simp at hz)
    all_goals first
     | (refine bodyPost_ret (v := .agg #[.int .i64 (-9223372036854775808), .bool false]) (by simp [results, Try.results71, go_sem, m0, m1]; done) rfl (did_fin ?_ (Below.cast' ((HB.out.setCell (p := ⟨g8, 0, none⟩) (Nat.le_refl _) _).setCell (p := ⟨g8, 1, none⟩) (Nat.le_refl _) _) HG.out)); simp; unfold hold; (try unfold wrap64); omega)
     | (refine bodyPost_ret (v := .agg #[.int .i64 9223372036854775807, .bool false]) (by simp [results, Try.results71, go_sem, m0, m1]; done) rfl (did_fin ?_ (Below.cast' ((HB.out.setCell (p := ⟨g8, 0, none⟩) (Nat.le_refl _) _).setCell (p := ⟨g8, 1, none⟩) (Nat.le_refl _) _) HG.out)); simp; unfold hold; (try unfold wrap64); omega)
     | (refine bodyPost_ret (v := .agg #[.int .i64 Q, .bool true]) (by simp [results, Try.results71, go_sem, m0, m1]; done) rfl (did_fin ?_ (Below.cast' ((HB.out.setCell (p := ⟨g8, 0, none⟩) (Nat.le_refl _) _).setCell (p := ⟨g8, 1, none⟩) (Nat.le_refl _) _) HG.out)); simp; unfold hold; (try unfold wrap64); omega)
     | (refine bodyPost_ret (v := .agg #[.int .i64 (Q + 1), .bool true]) (by simp [results, Try.results71, go_sem, m0, m1]; done) rfl (did_fin ?_ (Below.cast' ((HB.out.setCell (p := ⟨g8, 0, none⟩) (Nat.le_refl _) _).setCell (p := ⟨g8, 1, none⟩) (Nat.le_refl _) _) HG.out)); simp; unfold hold; (try unfold wrap64); omega)
     | (refine bodyPost_ret (v := .agg #[.int .i64 (wrap64 (-wrap64 Q)), .bool true]) (by simp [results, Try.results71, go_sem, m0, m1]; done) rfl (did_fin ?_ (Below.cast' ((HB.out.setCell (p := ⟨g8, 0, none⟩) (Nat.le_refl _) _).setCell (p := ⟨g8, 1, none⟩) (Nat.le_refl _) _) HG.out)); simp; unfold hold; (try unfold wrap64); omega)
     | (refine bodyPost_ret (v := .agg #[.int .i64 (wrap64 (-wrap64 (Q + 1))), .bool true]) (by simp [results, Try.results71, go_sem, m0, m1]; done) rfl (did_fin ?_ (Below.cast' ((HB.out.setCell (p := ⟨g8, 0, none⟩) (Nat.le_refl _) _).setCell (p := ⟨g8, 1, none⟩) (Nat.le_refl _) _) HG.out)); simp; unfold hold; (try unfold wrap64); omega)
     | (refine bodyPost_ret (v := .agg #[.int .i64 (wrap64 Q), .bool true]) (by simp [results, Try.results71, go_sem, m0, m1]; done) rfl (did_fin ?_ (Below.cast' ((HB.out.setCell (p := ⟨g8, 0, none⟩) (Nat.le_refl _) _).setCell (p := ⟨g8, 1, none⟩) (Nat.le_refl _) _) HG.out)); simp; unfold hold; (try unfold wrap64); omega)
     | (refine bodyPost_ret (v := .agg #[.int .i64 (wrap64 (Q + 1)), .bool true]) (by simp [results, Try.results71, go_sem, m0, m1]; done) rfl (did_fin ?_ (Below.cast' ((HB.out.setCell (p := ⟨g8, 0, none⟩) (Nat.le_refl _) _).setCell (p := ⟨g8, 1, none⟩) (Nat.le_refl _) _) HG.out)); simp; unfold hold; (try unfold wrap64); omega)
   | true =>
    go_wp2_with fail
    all_goals (have hz := hZ.out; simp at hz)
    all_goals first
     | (refine bodyPost_ret (v := .agg #[.int .i64 (-9223372036854775808), .bool false]) (by simp [results, Try.results71, go_sem, m0, m1]; done) rfl (did_fin ?_ (Below.cast' ((HB.out.setCell (p := ⟨g8, 0, none⟩) (Nat.le_refl _) _).setCell (p := ⟨g8, 1, none⟩) (Nat.le_refl _) _) HG.out)); simp; unfold hold; (try unfold wrap64); omega)
     | (refine bodyPost_ret (v := .agg #[.int .i64 9223372036854775807, .bool false]) (by simp [results, Try.results71, go_sem, m0, m1]; done) rfl (did_fin ?_ (Below.cast' ((HB.out.setCell (p := ⟨g8, 0, none⟩) (Nat.le_refl _) _).setCell (p := ⟨g8, 1, none⟩) (Nat.le_refl _) _) HG.out)); simp; unfold hold; (try unfold wrap64); omega)
     | (refine bodyPost_ret (v := .agg #[.int .i64 Q, .bool true]) (by simp [results, Try.results71, go_sem, m0, m1]; done) rfl (did_fin ?_ (Below.cast' ((HB.out.setCell (p := ⟨g8, 0, none⟩) (Nat.le_refl _) _).setCell (p := ⟨g8, 1, none⟩) (Nat.le_refl _) _) HG.out)); simp; unfold hold; (try unfold wrap64); omega)
     | (refine bodyPost_ret (v := .agg #[.int .i64 (Q + 1), .bool true]) (by simp [results, Try.results71, go_sem, m0, m1]; done) rfl (did_fin ?_ (Below.cast' ((HB.out.setCell (p := ⟨g8, 0, none⟩) (Nat.le_refl _) _).setCell (p := ⟨g8, 1, none⟩) (Nat.le_refl _) _) HG.out)); simp; unfold hold; (try unfold wrap64); omega)
     | (refine bodyPost_ret (v := .agg #[.int .i64 (wrap64 (-wrap64 Q)), .bool true]) (by simp [results, Try.results71, go_sem, m0, m1]; done) rfl (did_fin ?_ (Below.cast' ((HB.out.setCell (p := ⟨g8, 0, none⟩) (Nat.le_refl _) _).setCell (p := ⟨g8, 1, none⟩) (Nat.le_refl _) _) HG.out)); simp; unfold hold; (try unfold wrap64); omega)
     | (refine bodyPost_ret (v := .agg #[.int .i64 (wrap64 (-wrap64 (Q + 1))), .bool true]) (by simp [results, Try.results71, go_sem, m0, m1]; done) rfl (did_fin ?_ (Below.cast' ((HB.out.setCell (p := ⟨g8, 0, none⟩) (Nat.le_refl _) _).setCell (p := ⟨g8, 1, none⟩) (Nat.le_refl _) _) HG.out)); simp; unfold hold; (try unfold wrap64); omega)
     | (refine bodyPost_ret (v := .agg #[.int .i64 (wrap64 Q), .bool true]) (by simp [results, Try.results71, go_sem, m0, m1]; done) rfl (did_fin ?_ (Below.cast' ((HB.out.setCell (p := ⟨g8, 0, none⟩) (Nat.le_refl _) _).setCell (p := ⟨g8, 1, none⟩) (Nat.le_refl _) _) HG.out)); simp; unfold hold; (try unfold wrap64); omega)
     | (refine bodyPost_ret (v := .agg #[.int .i64 (wrap64 (Q + 1)), .bool true]) (by simp [results, Try.results71, go_sem, m0, m1]; done) rfl (did_fin ?_ (Below.cast' ((HB.out.setCell (p := ⟨g8, 0, none⟩) (Nat.le_refl _) _).setCell (p := ⟨g8, 1, none⟩) (Nat.le_refl _) _) HG.out)); simp; unfold hold; (try unfold wrap64); omega)
 ·go_wp2_with fail
  rw [← hg8, ← hgp]
  clear hg8 hgp
  generalize w3.alloc (.cells #[.int .u64 Q, .bool over, .int .u64 L] 158) = w4 at *
  go_quiet (fail)
  have p0 : (w4.drewN nq).cell? ⟨gp, 0, none⟩ = some (.int .u64 Q) := p0
  have p1 : (w4.drewN nq).cell? ⟨gp, 1, none⟩ = some (.bool over) := p1
  have f0 : (w4.drewN nq).frozen? ⟨g8, 0, none⟩ = false := f0
  have f1 : (w4.drewN nq).frozen? ⟨g8, 1, none⟩ = false := f1
  have m0 : (w4.drewN nq).cell? ⟨g8, 0, none⟩ = some (.int .i64 0) := m0
  have m1 : (w4.drewN nq).cell? ⟨g8, 1, none⟩ = some (.bool false) := m1
  have HB : Aside0 (Below g8 w (w4.drewN nq)) := ⟨HB.out.trans ((pw_below_drewN (Below.refl _ _) nq).mono (by rw [HG.out]; exact HB.out.size))⟩
  generalize w4.drewN nq = w4 at *
  cases U with
  | false =>
   cases over with
   | false =>
    by_cases hq : Q < 18446744073709551615
    ·have kz : (Q + 1 == 0) = false := beq_eq_false_iff_ne.2 (by omega)
     go_wp2_with fail
     all_goals (have hz := hZ.out; simp at hz)
     all_goals first
      | (refine bodyPost_ret (v := .agg #[.int .i64 (-9223372036854775808), .bool false]) (by simp [results, Try.results71, go_sem, m0, m1]; done) rfl (did_fin ?_ (Below.cast' ((HB.out.setCell (p := ⟨g8, 0, none⟩) (Nat.le_refl _) _).setCell (p := ⟨g8, 1, none⟩) (Nat.le_refl _) _) HG.out)); simp; unfold hold; (try unfold wrap64); omega)
      | (refine bodyPost_ret (v := .agg #[.int .i64 9223372036854775807, .bool false]) (by simp [results, Try.results71, go_sem, m0, m1]; done) rfl (did_fin ?_ (Below.cast' ((HB.out.setCell (p := ⟨g8, 0, none⟩) (Nat.le_refl _) _).setCell (p := ⟨g8, 1, none⟩) (Nat.le_refl _) _) HG.out)); simp; unfold hold; (try unfold wrap64); omega)
      | (refine bodyPost_ret (v := .agg #[.int .i64 Q, .bool true]) (by simp [results, Try.results71, go_sem, m0, m1]; done) rfl (did_fin ?_ (Below.cast' ((HB.out.setCell (p := ⟨g8, 0, none⟩) (Nat.le_refl _) _).setCell (p := ⟨g8, 1, none⟩) (Nat.le_refl _) _) HG.out)); simp; unfold hold; (try unfold wrap64); omega)
      | (refine bodyPost_ret (v := .agg #[.int .i64 (Q + 1), .bool true]) (by simp [results, Try.results71, go_sem, m0, m1]; done) rfl (did_fin ?_ (Below.cast' ((HB.out.setCell (p := ⟨g8, 0, none⟩) (Nat.le_refl _) _).setCell (p := ⟨g8, 1, none⟩) (Nat.le_refl _) _) HG.out)); simp; unfold hold; (try unfold wrap64); omega)
      | (refine bodyPost_ret (v := .agg #[.int .i64 (wrap64 (-wrap64 Q)), .bool true]) (by simp [results, Try.results71, go_sem, m0, m1]; done) rfl (did_fin ?_ (Below.cast' ((HB.out.setCell (p := ⟨g8, 0, none⟩) (Nat.le_refl _) _).setCell (p := ⟨g8, 1, none⟩) (Nat.le_refl _) _) HG.out)); simp; unfold hold; (try unfold wrap64); omega)
      | (refine bodyPost_ret (v := .agg #[.int .i64 (wrap64 (-wrap64 (Q + 1))), .bool true]) (by simp [results, Try.results71, go_sem, m0, m1]; done) rfl (did_fin ?_ (Below.cast' ((HB.out.setCell (p := ⟨g8, 0, none⟩) (Nat.le_refl _) _).setCell (p := ⟨g8, 1, none⟩) (Nat.le_refl _) _) HG.out)); simp; unfold hold; (try unfold wrap64); omega)
      | (refine bodyPost_ret (v := .agg #[.int .i64 (wrap64 Q), .bool true]) (by simp [results, Try.results71, go_sem, m0, m1]; done) rfl (did_fin ?_ (Below.cast' ((HB.out.setCell (p := ⟨g8, 0, none⟩) (Nat.le_refl _) _).setCell (p := ⟨g8, 1, none⟩) (Nat.le_refl _) _) HG.out)); simp; unfold hold; (try unfold wrap64); omega)
      | (refine bodyPost_ret (v := .agg #[.int .i64 (wrap64 (Q + 1)), .bool true]) (by simp [results, Try.results71, go_sem, m0, m1]; done) rfl (did_fin ?_ (Below.cast' ((HB.out.setCell (p := ⟨g8, 0, none⟩) (Nat.le_refl _) _).setCell (p := ⟨g8, 1, none⟩) (Nat.le_refl _) _) HG.out)); simp; unfold hold; (try unfold wrap64); omega)
    ·have hq2 : Q = 18446744073709551615 := by omega
     subst hq2
     go_wp2_with fail
     all_goals (have hz := hZ.out; simp at hz)
     all_goals first
      | (refine bodyPost_ret (v := .agg #[.int .i64 (-9223372036854775808), .bool false]) (by simp [results, Try.results71, go_sem, m0, m1]; done) rfl (did_fin ?_ (Below.cast' ((HB.out.setCell (p := ⟨g8, 0, none⟩) (Nat.le_refl _) _).setCell (p := ⟨g8, 1, none⟩) (Nat.le_refl _) _) HG.out)); simp; unfold hold; (try unfold wrap64); omega)
      | (refine bodyPost_ret (v := .agg #[.int .i64 9223372036854775807, .bool false]) (by simp [results, Try.results71, go_sem, m0, m1]; done) rfl (did_fin ?_ (Below.cast' ((HB.out.setCell (p := ⟨g8, 0, none⟩) (Nat.le_refl _) _).setCell (p := ⟨g8, 1, none⟩) (Nat.le_refl _) _) HG.out)); simp; unfold hold; (try unfold wrap64); omega)
      | (refine bodyPost_ret (v := .agg #[.int .i64 Q, .bool true]) (by simp [results, Try.results71, go_sem, m0, m1]; done) rfl (did_fin ?_ (Below.cast' ((HB.out.setCell (p := ⟨g8, 0, none⟩) (Nat.le_refl _) _).setCell (p := ⟨g8, 1, none⟩) (Nat.le_refl _) _) HG.out)); simp; unfold hold; (try unfold wrap64); omega)
      | (refine bodyPost_ret (v := .agg #[.int .i64 (Q + 1), .bool true]) (by simp [results, Try.results71, go_sem, m0, m1]; done) rfl (did_fin ?_ (Below.cast' ((HB.out.setCell (p := ⟨g8, 0, none⟩) (Nat.le_refl _) _).setCell (p := ⟨g8, 1, none⟩) (Nat.le_refl _) _) HG.out)); simp; unfold hold; (try unfold wrap64); omega)
      | (refine bodyPost_ret (v := .agg #[.int .i64 (wrap64 (-wrap64 Q)), .bool true]) (by simp [results, Try.results71, go_sem, m0, m1]; done) rfl (did_fin ?_ (Below.cast' ((HB.out.setCell (p := ⟨g8, 0, none⟩) (Nat.le_refl _) _).setCell (p := ⟨g8, 1, none⟩) (Nat.le_refl _) _) HG.out)); simp; unfold hold; (try unfold wrap64); omega)
      | (refine bodyPost_ret (v := .agg #[.int .i64 (wrap64 (-wrap64 (Q + 1))), .bool true]) (by simp [results, Try.results71, go_sem, m0, m1]; done) rfl (did_fin ?_ (Below.cast' ((HB.out.setCell (p := ⟨g8, 0, none⟩) (Nat.le_refl _) _).setCell (p := ⟨g8, 1, none⟩) (Nat.le_refl _) _) HG.out)); simp; unfold hold; (try unfold wrap64); omega)
      | (refine bodyPost_ret (v := .agg #[.int .i64 (wrap64 Q), .bool true]) (by simp [results, Try.results71, go_sem, m0, m1]; done) rfl (did_fin ?_ (Below.cast' ((HB.out.setCell (p := ⟨g8, 0, none⟩) (Nat.le_refl _) _).setCell (p := ⟨g8, 1, none⟩) (Nat.le_refl _) _) HG.out)); simp; unfold hold; (try unfold wrap64); omega)
      | (refine bodyPost_ret (v := .agg #[.int .i64 (wrap64 (Q + 1)), .bool true]) (by simp [results, Try.results71, go_sem, m0, m1]; done) rfl (did_fin ?_ (Below.cast' ((HB.out.setCell (p := ⟨g8, 0, none⟩) (Nat.le_refl _) _).setCell (p := ⟨g8, 1, none⟩) (Nat.le_refl _) _) HG.out)); simp; unfold hold; (try unfold wrap64); omega)
   | true =>
    by_cases hq : Q < 18446744073709551615
    ·have kz : (Q + 1 == 0) = false := beq_eq_false_iff_ne.2 (by omega)
     go_wp2_with fail
     all_goals (have hz := hZ.out; simp at hz)
     all_goals first
      | (refine bodyPost_ret (v := .agg #[.int .i64 (-9223372036854775808), .bool false]) (by simp [results, Try.results71, go_sem, m0, m1]; done) rfl (did_fin ?_ (Below.cast' ((HB.out.setCell (p := ⟨g8, 0, none⟩) (Nat.le_refl _) _).setCell (p := ⟨g8, 1, none⟩) (Nat.le_refl _) _) HG.out)); simp; unfold hold; (try unfold wrap64); omega)
      | (refine bodyPost_ret (v := .agg #[.int .i64 9223372036854775807, .bool false]) (by simp [results, Try.results71, go_sem, m0, m1]; done) rfl (did_fin ?_ (Below.cast' ((HB.out.setCell (p := ⟨g8, 0, none⟩) (Nat.le_refl _) _).setCell (p := ⟨g8, 1, none⟩) (Nat.le_refl _) _) HG.out)); simp; unfold hold; (try unfold wrap64); omega)
      | (refine bodyPost_ret (v := .agg #[.int .i64 Q, .bool true]) (by simp [results, Try.results71, go_sem, m0, m1]; done) rfl (did_fin ?_ (Below.cast' ((HB.out.setCell (p := ⟨g8, 0, none⟩) (Nat.le_refl _) _).setCell (p := ⟨g8, 1, none⟩) (Nat.le_refl _) _) HG.out)); simp; unfold hold; (try unfold wrap64); omega)
      | (refine bodyPost_ret (v := .agg #[.int .i64 (Q + 1), .bool true]) (by simp [results, Try.results71, go_sem, m0, m1]; done) rfl (did_fin ?_ (Below.cast' ((HB.out.setCell (p := ⟨g8, 0, none⟩) (Nat.le_refl _) _).setCell (p := ⟨g8, 1, none⟩) (Nat.le_refl _) _) HG.out)); simp; unfold hold; (try unfold wrap64); omega)
      | (refine bodyPost_ret (v := .agg #[.int .i64 (wrap64 (-wrap64 Q)), .bool true]) (by simp [results, Try.results71, go_sem, m0, m1]; done) rfl (did_fin ?_ (Below.cast' ((HB.out.setCell (p := ⟨g8, 0, none⟩) (Nat.le_refl _) _).setCell (p := ⟨g8, 1, none⟩) (Nat.le_refl _) _) HG.out)); simp; unfold hold; (try unfold wrap64); omega)
      | (refine bodyPost_ret (v := .agg #[.int .i64 (wrap64 (-wrap64 (Q + 1))), .bool true]) (by simp [results, Try.results71, go_sem, m0, m1]; done) rfl (did_fin ?_ (Below.cast' ((HB.out.setCell (p := ⟨g8, 0, none⟩) (Nat.le_refl _) _).setCell (p := ⟨g8, 1, none⟩) (Nat.le_refl _) _) HG.out)); simp; unfold hold; (try unfold wrap64); omega)
      | (refine bodyPost_ret (v := .agg #[.int .i64 (wrap64 Q), .bool true]) (by simp [results, Try.results71, go_sem, m0, m1]; done) rfl (did_fin ?_ (Below.cast' ((HB.out.setCell (p := ⟨g8, 0, none⟩) (Nat.le_refl _) _).setCell (p := ⟨g8, 1, none⟩) (Nat.le_refl _) _) HG.out)); simp; unfold hold; (try unfold wrap64); omega)
      | (refine bodyPost_ret (v := .agg #[.int .i64 (wrap64 (Q + 1)), .bool true]) (by simp [results, Try.results71, go_sem, m0, m1]; done) rfl (did_fin ?_ (Below.cast' ((HB.out.setCell (p := ⟨g8, 0, none⟩) (Nat.le_refl _) _).setCell (p := ⟨g8, 1, none⟩) (Nat.le_refl _) _) HG.out)); simp; unfold hold; (try unfold wrap64); omega)
    ·have hq2 : Q = 18446744073709551615 := by omega
     subst hq2
     go_wp2_with fail
     all_goals (have hz := hZ.out; simp at hz)
     all_goals first
      | (refine bodyPost_ret (v := .agg #[.int .i64 (-9223372036854775808), .bool false]) (by simp [results, Try.results71, go_sem, m0, m1]; done) rfl (did_fin ?_ (Below.cast' ((HB.out.setCell (p := ⟨g8, 0, none⟩) (Nat.le_refl _) _).setCell (p := ⟨g8, 1, none⟩) (Nat.le_refl _) _) HG.out)); simp; unfold hold; (try unfold wrap64); omega)
      | (refine bodyPost_ret (v := .agg #[.int .i64 9223372036854775807, .bool false]) (by simp [results, Try.results71, go_sem, m0, m1]; done) rfl (did_fin ?_ (Below.cast' ((HB.out.setCell (p := ⟨g8, 0, none⟩) (Nat.le_refl _) _).setCell (p := ⟨g8, 1, none⟩) (Nat.le_refl _) _) HG.out)); simp; unfold hold; (try unfold wrap64); omega)
      | (refine bodyPost_ret (v := .agg #[.int .i64 Q, .bool true]) (by simp [results, Try.results71, go_sem, m0, m1]; done) rfl (did_fin ?_ (Below.cast' ((HB.out.setCell (p := ⟨g8, 0, none⟩) (Nat.le_refl _) _).setCell (p := ⟨g8, 1, none⟩) (Nat.le_refl _) _) HG.out)); simp; unfold hold; (try unfold wrap64); omega)
      | (refine bodyPost_ret (v := .agg #[.int .i64 (Q + 1), .bool true]) (by simp [results, Try.results71, go_sem, m0, m1]; done) rfl (did_fin ?_ (Below.cast' ((HB.out.setCell (p := ⟨g8, 0, none⟩) (Nat.le_refl _) _).setCell (p := ⟨g8, 1, none⟩) (Nat.le_refl _) _) HG.out)); simp; unfold hold; (try unfold wrap64); omega)
      | (refine bodyPost_ret (v := .agg #[.int .i64 (wrap64 (-wrap64 Q)), .bool true]) (by simp [results, Try.results71, go_sem, m0, m1]; done) rfl (did_fin ?_ (Below.cast' ((HB.out.setCell (p := ⟨g8, 0, none⟩) (Nat.le_refl _) _).setCell (p := ⟨g8, 1, none⟩) (Nat.le_refl _) _) HG.out)); simp; unfold hold; (try unfold wrap64); omega)
      | (refine bodyPost_ret (v := .agg #[.int .i64 (wrap64 (-wrap64 (Q + 1))), .bool true]) (by simp [results, Try.results71, go_sem, m0, m1]; done) rfl (did_fin ?_ (Below.cast' ((HB.out.setCell (p := ⟨g8, 0, none⟩) (Nat.le_refl _) _).setCell (p := ⟨g8, 1, none⟩) (Nat.le_refl _) _) HG.out)); simp; unfold hold; (try unfold wrap64); omega)
      | (refine bodyPost_ret (v := .agg #[.int .i64 (wrap64 Q), .bool true]) (by simp [results, Try.results71, go_sem, m0, m1]; done) rfl (did_fin ?_ (Below.cast' ((HB.out.setCell (p := ⟨g8, 0, none⟩) (Nat.le_refl _) _).setCell (p := ⟨g8, 1, none⟩) (Nat.le_refl _) _) HG.out)); simp; unfold hold; (try unfold wrap64); omega)
      | (refine bodyPost_ret (v := .agg #[.int .i64 (wrap64 (Q + 1)), .bool true]) (by simp [results, Try.results71, go_sem, m0, m1]; done) rfl (did_fin ?_ (Below.cast' ((HB.out.setCell (p := ⟨g8, 0, none⟩) (Nat.le_refl _) _).setCell (p := ⟨g8, 1, none⟩) (Nat.le_refl _) _) HG.out)); simp; unfold hold; (try unfold wrap64); omega)
  | true =>
   cases over with
   | false =>
    by_cases hq : Q < 18446744073709551615
    ·have kz : (Q + 1 == 0) = false := beq_eq_false_iff_ne.2 (by omega)
     go_wp2_with fail
     all_goals (have hz := hZ.out; simp at hz)
     all_goals first
      | (refine bodyPost_ret (v := .agg #[.int .i64 (-9223372036854775808), .bool false]) (by simp [results, Try.results71, go_sem, m0, m1]; done) rfl (did_fin ?_ (Below.cast' ((HB.out.setCell (p := ⟨g8, 0, none⟩) (Nat.le_refl _) _).setCell (p := ⟨g8, 1, none⟩) (Nat.le_refl _) _) HG.out)); simp; unfold hold; (try unfold wrap64); omega)
      | (refine bodyPost_ret (v := .agg #[.int .i64 9223372036854775807, .bool false]) (by simp [results, Try.results71, go_sem, m0, m1]; done) rfl (did_fin ?_ (Below.cast' ((HB.out.setCell (p := ⟨g8, 0, none⟩) (Nat.le_refl _) _).setCell (p := ⟨g8, 1, none⟩) (Nat.le_refl _) _) HG.out)); simp; unfold hold; (try unfold wrap64); omega)
      | (refine bodyPost_ret (v := .agg #[.int .i64 Q, .bool true]) (by simp [results, Try.results71, go_sem, m0, m1]; done) rfl (did_fin ?_ (Below.cast' ((HB.out.setCell (p := ⟨g8, 0, none⟩) (Nat.le_refl _) _).setCell (p := ⟨g8, 1, none⟩) (Nat.le_refl _) _) HG.out)); simp; unfold hold; (try unfold wrap64); omega)
      | (refine bodyPost_ret (v := .agg #[.int .i64 (Q + 1), .bool true]) (by simp [results, Try.results71, go_sem, m0, m1]; done) rfl (did_fin ?_ (Below.cast' ((HB.out.setCell (p := ⟨g8, 0, none⟩) (Nat.le_refl _) _).setCell (p := ⟨g8, 1, none⟩) (Nat.le_refl _) _) HG.out)); simp; unfold hold; (try unfold wrap64); omega)
      | (refine bodyPost_ret (v := .agg #[.int .i64 (wrap64 (-wrap64 Q)), .bool true]) (by simp [results, Try.results71, go_sem, m0, m1]; done) rfl (did_fin ?_ (Below.cast' ((HB.out.setCell (p := ⟨g8, 0, none⟩) (Nat.le_refl _) _).setCell (p := ⟨g8, 1, none⟩) (Nat.le_refl _) _) HG.out)); simp; unfold hold; (try unfold wrap64); omega)
      | (refine bodyPost_ret (v := .agg #[.int .i64 (wrap64 (-wrap64 (Q + 1))), .bool true]) (by simp [results, Try.results71, go_sem, m0, m1]; done) rfl (did_fin ?_ (Below.cast' ((HB.out.setCell (p := ⟨g8, 0, none⟩) (Nat.le_refl _) _).setCell (p := ⟨g8, 1, none⟩) (Nat.le_refl _) _) HG.out)); simp; unfold hold; (try unfold wrap64); omega)
      | (refine bodyPost_ret (v := .agg #[.int .i64 (wrap64 Q), .bool true]) (by simp [results, Try.results71, go_sem, m0, m1]; done) rfl (did_fin ?_ (Below.cast' ((HB.out.setCell (p := ⟨g8, 0, none⟩) (Nat.le_refl _) _).setCell (p := ⟨g8, 1, none⟩) (Nat.le_refl _) _) HG.out)); simp; unfold hold; (try unfold wrap64); omega)
      | (refine bodyPost_ret (v := .agg #[.int .i64 (wrap64 (Q + 1)), .bool true]) (by simp [results, Try.results71, go_sem, m0, m1]; done) rfl (did_fin ?_ (Below.cast' ((HB.out.setCell (p := ⟨g8, 0, none⟩) (Nat.le_refl _) _).setCell (p := ⟨g8, 1, none⟩) (Nat.le_refl _) _) HG.out)); simp; unfold hold; (try unfold wrap64); omega)
    ·have hq2 : Q = 18446744073709551615 := by omega
     subst hq2
     go_wp2_with fail
     all_goals (have hz := hZ.out; simp at hz)
     all_goals first
      | (refine bodyPost_ret (v := .agg #[.int .i64 (-9223372036854775808), .bool false]) (by simp [results, Try.results71, go_sem, m0, m1]; done) rfl (did_fin ?_ (Below.cast' ((HB.out.setCell (p := ⟨g8, 0, none⟩) (Nat.le_refl _) _).setCell (p := ⟨g8, 1, none⟩) (Nat.le_refl _) _) HG.out)); simp; unfold hold; (try unfold wrap64); omega)
      | (refine bodyPost_ret (v := .agg #[.int .i64 9223372036854775807, .bool false]) (by simp [results, Try.results71, go_sem, m0, m1]; done) rfl (did_fin ?_ (Below.cast' ((HB.out.setCell (p := ⟨g8, 0, none⟩) (Nat.le_refl _) _).setCell (p := ⟨g8, 1, none⟩) (Nat.le_refl _) _) HG.out)); simp; unfold hold; (try unfold wrap64); omega)
      | (refine bodyPost_ret (v := .agg #[.int .i64 Q, .bool true]) (by simp [results, Try.results71, go_sem, m0, m1]; done) rfl (did_fin ?_ (Below.cast' ((HB.out.setCell (p := ⟨g8, 0, none⟩) (Nat.le_refl _) _).setCell (p := ⟨g8, 1, none⟩) (Nat.le_refl _) _) HG.out)); simp; unfold hold; (try unfold wrap64); omega)
      | (refine bodyPost_ret (v := .agg #[.int .i64 (Q + 1), .bool true]) (by simp [results, Try.results71, go_sem, m0, m1]; done) rfl (did_fin ?_ (Below.cast' ((HB.out.setCell (p := ⟨g8, 0, none⟩) (Nat.le_refl _) _).setCell (p := ⟨g8, 1, none⟩) (Nat.le_refl _) _) HG.out)); simp; unfold hold; (try unfold wrap64); omega)
      | (refine bodyPost_ret (v := .agg #[.int .i64 (wrap64 (-wrap64 Q)), .bool true]) (by simp [results, Try.results71, go_sem, m0, m1]; done) rfl (did_fin ?_ (Below.cast' ((HB.out.setCell (p := ⟨g8, 0, none⟩) (Nat.le_refl _) _).setCell (p := ⟨g8, 1, none⟩) (Nat.le_refl _) _) HG.out)); simp; unfold hold; (try unfold wrap64); omega)
      | (refine bodyPost_ret (v := .agg #[.int .i64 (wrap64 (-wrap64 (Q + 1))), .bool true]) (by simp [results, Try.results71, go_sem, m0, m1]; done) rfl (did_fin ?_ (Below.cast' ((HB.out.setCell (p := ⟨g8, 0, none⟩) (Nat.le_refl _) _).setCell (p := ⟨g8, 1, none⟩) (Nat.le_refl _) _) HG.out)); simp; unfold hold; (try unfold wrap64); omega)
      | (refine bodyPost_ret (v := .agg #[.int .i64 (wrap64 Q), .bool true]) (by simp [results, Try.results71, go_sem, m0, m1]; done) rfl (did_fin ?_ (Below.cast' ((HB.out.setCell (p := ⟨g8, 0, none⟩) (Nat.le_refl _) _).setCell (p := ⟨g8, 1, none⟩) (Nat.le_refl _) _) HG.out)); simp; unfold hold; (try unfold wrap64); omega)
      | (refine bodyPost_ret (v := .agg #[.int .i64 (wrap64 (Q + 1)), .bool true]) (by simp [results, Try.results71, go_sem, m0, m1]; done) rfl (did_fin ?_ (Below.cast' ((HB.out.setCell (p := ⟨g8, 0, none⟩) (Nat.le_refl _) _).setCell (p := ⟨g8, 1, none⟩) (Nat.le_refl _) _) HG.out)); simp; unfold hold; (try unfold wrap64); omega)
   | true =>
    by_cases hq : Q < 18446744073709551615
    ·have kz : (Q + 1 == 0) = false := beq_eq_false_iff_ne.2 (by omega)
     go_wp2_with fail
     all_goals (have hz := hZ.out; simp at hz)
     all_goals first
      | (refine bodyPost_ret (v := .agg #[.int .i64 (-9223372036854775808), .bool false]) (by simp [results, Try.results71, go_sem, m0, m1]; done) rfl (did_fin ?_ (Below.cast' ((HB.out.setCell (p := ⟨g8, 0, none⟩) (Nat.le_refl _) _).setCell (p := ⟨g8, 1, none⟩) (Nat.le_refl _) _) HG.out)); simp; unfold hold; (try unfold wrap64); omega)
      | (refine bodyPost_ret (v := .agg #[.int .i64 9223372036854775807, .bool false]) (by simp [results, Try.results71, go_sem, m0, m1]; done) rfl (did_fin ?_ (Below.cast' ((HB.out.setCell (p := ⟨g8, 0, none⟩) (Nat.le_refl _) _).setCell (p := ⟨g8, 1, none⟩) (Nat.le_refl _) _) HG.out)); simp; unfold hold; (try unfold wrap64); omega)
      | (refine bodyPost_ret (v := .agg #[.int .i64 Q, .bool true]) (by simp [results, Try.results71, go_sem, m0, m1]; done) rfl (did_fin ?_ (Below.cast' ((HB.out.setCell (p := ⟨g8, 0, none⟩) (Nat.le_refl _) _).setCell (p := ⟨g8, 1, none⟩) (Nat.le_refl _) _) HG.out)); simp; unfold hold; (try unfold wrap64); omega)
      | (refine bodyPost_ret (v := .agg #[.int .i64 (Q + 1), .bool true]) (by simp [results, Try.results71, go_sem, m0, m1]; done) rfl (did_fin ?_ (Below.cast' ((HB.out.setCell (p := ⟨g8, 0, none⟩) (Nat.le_refl _) _).setCell (p := ⟨g8, 1, none⟩) (Nat.le_refl _) _) HG.out)); simp; unfold hold; (try unfold wrap64); omega)
      | (refine bodyPost_ret (v := .agg #[.int .i64 (wrap64 (-wrap64 Q)), .bool true]) (by simp [results, Try.results71, go_sem, m0, m1]; done) rfl (did_fin ?_ (Below.cast' ((HB.out.setCell (p := ⟨g8, 0, none⟩) (Nat.le_refl _) _).setCell (p := ⟨g8, 1, none⟩) (Nat.le_refl _) _) HG.out)); simp; unfold hold; (try unfold wrap64); omega)
      | (refine bodyPost_ret (v := .agg #[.int .i64 (wrap64 (-wrap64 (Q + 1))), .bool true]) (by simp [results, Try.results71, go_sem, m0, m1]; done) rfl (did_fin ?_ (Below.cast' ((HB.out.setCell (p := ⟨g8, 0, none⟩) (Nat.le_refl _) _).setCell (p := ⟨g8, 1, none⟩) (Nat.le_refl _) _) HG.out)); simp; unfold hold; (try unfold wrap64); omega)
      | (refine bodyPost_ret (v := .agg #[.int .i64 (wrap64 Q), .bool true]) (by simp [results, Try.results71, go_sem, m0, m1]; done) rfl (did_fin ?_ (Below.cast' ((HB.out.setCell (p := ⟨g8, 0, none⟩) (Nat.le_refl _) _).setCell (p := ⟨g8, 1, none⟩) (Nat.le_refl _) _) HG.out)); simp; unfold hold; (try unfold wrap64); omega)
      | (refine bodyPost_ret (v := .agg #[.int .i64 (wrap64 (Q + 1)), .bool true]) (by simp [results, Try.results71, go_sem, m0, m1]; done) rfl (did_fin ?_ (Below.cast' ((HB.out.setCell (p := ⟨g8, 0, none⟩) (Nat.le_refl _) _).setCell (p := ⟨g8, 1, none⟩) (Nat.le_refl _) _) HG.out)); simp; unfold hold; (try unfold wrap64); omega)
    ·have hq2 : Q = 18446744073709551615 := by omega
     subst hq2
     go_wp2_with fail
     all_goals (have hz := hZ.out; simp at hz)
     all_goals first
      | (refine bodyPost_ret (v := .agg #[.int .i64 (-9223372036854775808), .bool false]) (by simp [results, Try.results71, go_sem, m0, m1]; done) rfl (did_fin ?_ (Below.cast' ((HB.out.setCell (p := ⟨g8, 0, none⟩) (Nat.le_refl _) _).setCell (p := ⟨g8, 1, none⟩) (Nat.le_refl _) _) HG.out)); simp; unfold hold; (try unfold wrap64); omega)
      | (refine bodyPost_ret (v := .agg #[.int .i64 9223372036854775807, .bool false]) (by simp [results, Try.results71, go_sem, m0, m1]; done) rfl (did_fin ?_ (Below.cast' ((HB.out.setCell (p := ⟨g8, 0, none⟩) (Nat.le_refl _) _).setCell (p := ⟨g8, 1, none⟩) (Nat.le_refl _) _) HG.out)); simp; unfold hold; (try unfold wrap64); omega)
      | (refine bodyPost_ret (v := .agg #[.int .i64 Q, .bool true]) (by simp [results, Try.results71, go_sem, m0, m1]; done) rfl (did_fin ?_ (Below.cast' ((HB.out.setCell (p := ⟨g8, 0, none⟩) (Nat.le_refl _) _).setCell (p := ⟨g8, 1, none⟩) (Nat.le_refl _) _) HG.out)); simp; unfold hold; (try unfold wrap64); omega)
      | (refine bodyPost_ret (v := .agg #[.int .i64 (Q + 1), .bool true]) (by simp [results, Try.results71, go_sem, m0, m1]; done) rfl (did_fin ?_ (Below.cast' ((HB.out.setCell (p := ⟨g8, 0, none⟩) (Nat.le_refl _) _).setCell (p := ⟨g8, 1, none⟩) (Nat.le_refl _) _) HG.out)); simp; unfold hold; (try unfold wrap64); omega)
      | (refine bodyPost_ret (v := .agg #[.int .i64 (wrap64 (-wrap64 Q)), .bool true]) (by simp [results, Try.results71, go_sem, m0, m1]; done) rfl (did_fin ?_ (Below.cast' ((HB.out.setCell (p := ⟨g8, 0, none⟩) (Nat.le_refl _) _).setCell (p := ⟨g8, 1, none⟩) (Nat.le_refl _) _) HG.out)); simp; unfold hold; (try unfold wrap64); omega)
      | (refine bodyPost_ret (v := .agg #[.int .i64 (wrap64 (-wrap64 (Q + 1))), .bool true]) (by simp [results, Try.results71, go_sem, m0, m1]; done) rfl (did_fin ?_ (Below.cast' ((HB.out.setCell (p := ⟨g8, 0, none⟩) (Nat.le_refl _) _).setCell (p := ⟨g8, 1, none⟩) (Nat.le_refl _) _) HG.out)); simp; unfold hold; (try unfold wrap64); omega)
      | (refine bodyPost_ret (v := .agg #[.int .i64 (wrap64 Q), .bool true]) (by simp [results, Try.results71, go_sem, m0, m1]; done) rfl (did_fin ?_ (Below.cast' ((HB.out.setCell (p := ⟨g8, 0, none⟩) (Nat.le_refl _) _).setCell (p := ⟨g8, 1, none⟩) (Nat.le_refl _) _) HG.out)); simp; unfold hold; (try unfold wrap64); omega)
      | (refine bodyPost_ret (v := .agg #[.int .i64 (wrap64 (Q + 1)), .bool true]) (by simp [results, Try.results71, go_sem, m0, m1]; done) rfl (did_fin ?_ (Below.cast' ((HB.out.setCell (p := ⟨g8, 0, none⟩) (Nat.le_refl _) _).setCell (p := ⟨g8, 1, none⟩) (Nat.le_refl _) _) HG.out)); simp; unfold hold; (try unfold wrap64); omega)
 ·go_wp2_with fail
  rw [← hg8, ← hgp]
  clear hg8 hgp
  generalize w3.alloc (.cells #[.int .u64 Q, .bool over, .int .u64 L] 158) = w4 at *
  go_quiet (fail)
  have p0 : (w4.drewN nq).cell? ⟨gp, 0, none⟩ = some (.int .u64 Q) := p0
  have p1 : (w4.drewN nq).cell? ⟨gp, 1, none⟩ = some (.bool over) := p1
  have f0 : (w4.drewN nq).frozen? ⟨g8, 0, none⟩ = false := f0
  have f1 : (w4.drewN nq).frozen? ⟨g8, 1, none⟩ = false := f1
  have m0 : (w4.drewN nq).cell? ⟨g8, 0, none⟩ = some (.int .i64 0) := m0
  have m1 : (w4.drewN nq).cell? ⟨g8, 1, none⟩ = some (.bool false) := m1
  have HB : Aside0 (Below g8 w (w4.drewN nq)) := ⟨HB.out.trans ((pw_below_drewN (Below.refl _ _) nq).mono (by rw [HG.out]; exact HB.out.size))⟩
  generalize w4.drewN nq = w4 at *
  cases below with
  | false =>
   cases over with
   | false =>
    by_cases hq : Q < 18446744073709551615
    ·have kz : (Q + 1 == 0) = false := beq_eq_false_iff_ne.2 (by omega)
     go_wp2_with fail
     all_goals (have hz := hZ.out; simp at hz)
     all_goals first
      | (refine bodyPost_ret (v := .agg #[.int .i64 (-9223372036854775808), .bool false]) (by simp [results, Try.results71, go_sem, m0, m1]; done) rfl (did_fin ?_ (Below.cast' ((HB.out.setCell (p := ⟨g8, 0, none⟩) (Nat.le_refl _) _).setCell (p := ⟨g8, 1, none⟩) (Nat.le_refl _) _) HG.out)); simp; unfold hold; (try unfold wrap64); omega)
      | (refine bodyPost_ret (v := .agg #[.int .i64 9223372036854775807, .bool false]) (by simp [results, Try.results71, go_sem, m0, m1]; done) rfl (did_fin ?_ (Below.cast' ((HB.out.setCell (p := ⟨g8, 0, none⟩) (Nat.le_refl _) _).setCell (p := ⟨g8, 1, none⟩) (Nat.le_refl _) _) HG.out)); simp; unfold hold; (try unfold wrap64); omega)
      | (refine bodyPost_ret (v := .agg #[.int .i64 Q, .bool true]) (by simp [results, Try.results71, go_sem, m0, m1]; done) rfl (did_fin ?_ (Below.cast' ((HB.out.setCell (p := ⟨g8, 0, none⟩) (Nat.le_refl _) _).setCell (p := ⟨g8, 1, none⟩) (Nat.le_refl _) _) HG.out)); simp; unfold hold; (try unfold wrap64); omega)
      | (refine bodyPost_ret (v := .agg #[.int .i64 (Q + 1), .bool true]) (by simp [results, Try.results71, go_sem, m0, m1]; done) rfl (did_fin ?_ (Below.cast' ((HB.out.setCell (p := ⟨g8, 0, none⟩) (Nat.le_refl _) _).setCell (p := ⟨g8, 1, none⟩) (Nat.le_refl _) _) HG.out)); simp; unfold hold; (try unfold wrap64); omega)
      | (refine bodyPost_ret (v := .agg #[.int .i64 (wrap64 (-wrap64 Q)), .bool true]) (by simp [results, Try.results71, go_sem, m0, m1]; done) rfl (did_fin ?_ (Below.cast' ((HB.out.setCell (p := ⟨g8, 0, none⟩) (Nat.le_refl _) _).setCell (p := ⟨g8, 1, none⟩) (Nat.le_refl _) _) HG.out)); simp; unfold hold; (try unfold wrap64); omega)
      | (refine bodyPost_ret (v := .agg #[.int .i64 (wrap64 (-wrap64 (Q + 1))), .bool true]) (by simp [results, Try.results71, go_sem, m0, m1]; done) rfl (did_fin ?_ (Below.cast' ((HB.out.setCell (p := ⟨g8, 0, none⟩) (Nat.le_refl _) _).setCell (p := ⟨g8, 1, none⟩) (Nat.le_refl _) _) HG.out)); simp; unfold hold; (try unfold wrap64); omega)
      | (refine bodyPost_ret (v := .agg #[.int .i64 (wrap64 Q), .bool true]) (by simp [results, Try.results71, go_sem, m0, m1]; done) rfl (did_fin ?_ (Below.cast' ((HB.out.setCell (p := ⟨g8, 0, none⟩) (Nat.le_refl _) _).setCell (p := ⟨g8, 1, none⟩) (Nat.le_refl _) _) HG.out)); simp; unfold hold; (try unfold wrap64); omega)
      | (refine bodyPost_ret (v := .agg #[.int .i64 (wrap64 (Q + 1)), .bool true]) (by simp [results, Try.results71, go_sem, m0, m1]; done) rfl (did_fin ?_ (Below.cast' ((HB.out.setCell (p := ⟨g8, 0, none⟩) (Nat.le_refl _) _).setCell (p := ⟨g8, 1, none⟩) (Nat.le_refl _) _) HG.out)); simp; unfold hold; (try unfold wrap64); omega)
    ·have hq2 : Q = 18446744073709551615 := by omega
     subst hq2
     go_wp2_with fail
     all_goals (have hz := hZ.out; simp at hz)
     all_goals first
      | (refine bodyPost_ret (v := .agg #[.int .i64 (-9223372036854775808), .bool false]) (by simp [results, Try.results71, go_sem, m0, m1]; done) rfl (did_fin ?_ (Below.cast' ((HB.out.setCell (p := ⟨g8, 0, none⟩) (Nat.le_refl _) _).setCell (p := ⟨g8, 1, none⟩) (Nat.le_refl _) _) HG.out)); simp; unfold hold; (try unfold wrap64); omega)
      | (refine bodyPost_ret (v := .agg #[.int .i64 9223372036854775807, .bool false]) (by simp [results, Try.results71, go_sem, m0, m1]; done) rfl (did_fin ?_ (Below.cast' ((HB.out.setCell (p := ⟨g8, 0, none⟩) (Nat.le_refl _) _).setCell (p := ⟨g8, 1, none⟩) (Nat.le_refl _) _) HG.out)); simp; unfold hold; (try unfold wrap64); omega)
      | (refine bodyPost_ret (v := .agg #[.int .i64 Q, .bool true]) (by simp [results, Try.results71, go_sem, m0, m1]; done) rfl (did_fin ?_ (Below.cast' ((HB.out.setCell (p := ⟨g8, 0, none⟩) (Nat.le_refl _) _).setCell (p := ⟨g8, 1, none⟩) (Nat.le_refl _) _) HG.out)); simp; unfold hold; (try unfold wrap64); omega)
      | (refine bodyPost_ret (v := .agg #[.int .i64 (Q + 1), .bool true]) (by simp [results, Try.results71, go_sem, m0, m1]; done) rfl (did_fin ?_ (Below.cast' ((HB.out.setCell (p := ⟨g8, 0, none⟩) (Nat.le_refl _) _).setCell (p := ⟨g8, 1, none⟩) (Nat.le_refl _) _) HG.out)); simp; unfold hold; (try unfold wrap64); omega)
      | (refine bodyPost_ret (v := .agg #[.int .i64 (wrap64 (-wrap64 Q)), .bool true]) (by simp [results, Try.results71, go_sem, m0, m1]; done) rfl (did_fin ?_ (Below.cast' ((HB.out.setCell (p := ⟨g8, 0, none⟩) (Nat.le_refl _) _).setCell (p := ⟨g8, 1, none⟩) (Nat.le_refl _) _) HG.out)); simp; unfold hold; (try unfold wrap64); omega)
      | (refine bodyPost_ret (v := .agg #[.int .i64 (wrap64 (-wrap64 (Q + 1))), .bool true]) (by simp [results, Try.results71, go_sem, m0, m1]; done) rfl (did_fin ?_ (Below.cast' ((HB.out.setCell (p := ⟨g8, 0, none⟩) (Nat.le_refl _) _).setCell (p := ⟨g8, 1, none⟩) (Nat.le_refl _) _) HG.out)); simp; unfold hold; (try unfold wrap64); omega)
      | (refine bodyPost_ret (v := .agg #[.int .i64 (wrap64 Q), .bool true]) (by simp [results, Try.results71, go_sem, m0, m1]; done) rfl (did_fin ?_ (Below.cast' ((HB.out.setCell (p := ⟨g8, 0, none⟩) (Nat.le_refl _) _).setCell (p := ⟨g8, 1, none⟩) (Nat.le_refl _) _) HG.out)); simp; unfold hold; (try unfold wrap64); omega)
      | (refine bodyPost_ret (v := .agg #[.int .i64 (wrap64 (Q + 1)), .bool true]) (by simp [results, Try.results71, go_sem, m0, m1]; done) rfl (did_fin ?_ (Below.cast' ((HB.out.setCell (p := ⟨g8, 0, none⟩) (Nat.le_refl _) _).setCell (p := ⟨g8, 1, none⟩) (Nat.le_refl _) _) HG.out)); simp; unfold hold; (try unfold wrap64); omega)
   | true =>
    by_cases hq : Q < 18446744073709551615
    ·have kz : (Q + 1 == 0) = false := beq_eq_false_iff_ne.2 (by omega)
     go_wp2_with fail
     all_goals (have hz := hZ.out; simp at hz)
     all_goals first
      | (refine bodyPost_ret (v := .agg #[.int .i64 (-9223372036854775808), .bool false]) (by simp [results, Try.results71, go_sem, m0, m1]; done) rfl (did_fin ?_ (Below.cast' ((HB.out.setCell (p := ⟨g8, 0, none⟩) (Nat.le_refl _) _).setCell (p := ⟨g8, 1, none⟩) (Nat.le_refl _) _) HG.out)); simp; unfold hold; (try unfold wrap64); omega)
      | (refine bodyPost_ret (v := .agg #[.int .i64 9223372036854775807, .bool false]) (by simp [results, Try.results71, go_sem, m0, m1]; done) rfl (did_fin ?_ (Below.cast' ((HB.out.setCell (p := ⟨g8, 0, none⟩) (Nat.le_refl _) _).setCell (p := ⟨g8, 1, none⟩) (Nat.le_refl _) _) HG.out)); simp; unfold hold; (try unfold wrap64); omega)
      | (refine bodyPost_ret (v := .agg #[.int .i64 Q, .bool true]) (by simp [results, Try.results71, go_sem, m0, m1]; done) rfl (did_fin ?_ (Below.cast' ((HB.out.setCell (p := ⟨g8, 0, none⟩) (Nat.le_refl _) _).setCell (p := ⟨g8, 1, none⟩) (Nat.le_refl _) _) HG.out)); simp; unfold hold; (try unfold wrap64); omega)
      | (refine bodyPost_ret (v := .agg #[.int .i64 (Q + 1), .bool true]) (by simp [results, Try.results71, go_sem, m0, m1]; done) rfl (did_fin ?_ (Below.cast' ((HB.out.setCell (p := ⟨g8, 0, none⟩) (Nat.le_refl _) _).setCell (p := ⟨g8, 1, none⟩) (Nat.le_refl _) _) HG.out)); simp; unfold hold; (try unfold wrap64); omega)
      | (refine bodyPost_ret (v := .agg #[.int .i64 (wrap64 (-wrap64 Q)), .bool true]) (by simp [results, Try.results71, go_sem, m0, m1]; done) rfl (did_fin ?_ (Below.cast' ((HB.out.setCell (p := ⟨g8, 0, none⟩) (Nat.le_refl _) _).setCell (p := ⟨g8, 1, none⟩) (Nat.le_refl _) _) HG.out)); simp; unfold hold; (try unfold wrap64); omega)
      | (refine bodyPost_ret (v := .agg #[.int .i64 (wrap64 (-wrap64 (Q + 1))), .bool true]) (by simp [results, Try.results71, go_sem, m0, m1]; done) rfl (did_fin ?_ (Below.cast' ((HB.out.setCell (p := ⟨g8, 0, none⟩) (Nat.le_refl _) _).setCell (p := ⟨g8, 1, none⟩) (Nat.le_refl _) _) HG.out)); simp; unfold hold; (try unfold wrap64); omega)
      | (refine bodyPost_ret (v := .agg #[.int .i64 (wrap64 Q), .bool true]) (by simp [results, Try.results71, go_sem, m0, m1]; done) rfl (did_fin ?_ (Below.cast' ((HB.out.setCell (p := ⟨g8, 0, none⟩) (Nat.le_refl _) _).setCell (p := ⟨g8, 1, none⟩) (Nat.le_refl _) _) HG.out)); simp; unfold hold; (try unfold wrap64); omega)
      | (refine bodyPost_ret (v := .agg #[.int .i64 (wrap64 (Q + 1)), .bool true]) (by simp [results, Try.results71, go_sem, m0, m1]; done) rfl (did_fin ?_ (Below.cast' ((HB.out.setCell (p := ⟨g8, 0, none⟩) (Nat.le_refl _) _).setCell (p := ⟨g8, 1, none⟩) (Nat.le_refl _) _) HG.out)); simp; unfold hold; (try unfold wrap64); omega)
    ·have hq2 : Q = 18446744073709551615 := by omega
     subst hq2
     go_wp2_with fail
     all_goals (have hz := hZ.out; simp at hz)
     all_goals first
      | (refine bodyPost_ret (v := .agg #[.int .i64 (-9223372036854775808), .bool false]) (by simp [results, Try.results71, go_sem, m0, m1]; done) rfl (did_fin ?_ (Below.cast' ((HB.out.setCell (p := ⟨g8, 0, none⟩) (Nat.le_refl _) _).setCell (p := ⟨g8, 1, none⟩) (Nat.le_refl _) _) HG.out)); simp; unfold hold; (try unfold wrap64); omega)
      | (refine bodyPost_ret (v := .agg #[.int .i64 9223372036854775807, .bool false]) (by simp [results, Try.results71, go_sem, m0, m1]; done) rfl (did_fin ?_ (Below.cast' ((HB.out.setCell (p := ⟨g8, 0, none⟩) (Nat.le_refl _) _).setCell (p := ⟨g8, 1, none⟩) (Nat.le_refl _) _) HG.out)); simp; unfold hold; (try unfold wrap64); omega)
      | (refine bodyPost_ret (v := .agg #[.int .i64 Q, .bool true]) (by simp [results, Try.results71, go_sem, m0, m1]; done) rfl (did_fin ?_ (Below.cast' ((HB.out.setCell (p := ⟨g8, 0, none⟩) (Nat.le_refl _) _).setCell (p := ⟨g8, 1, none⟩) (Nat.le_refl _) _) HG.out)); simp; unfold hold; (try unfold wrap64); omega)
      | (refine bodyPost_ret (v := .agg #[.int .i64 (Q + 1), .bool true]) (by simp [results, Try.results71, go_sem, m0, m1]; done) rfl (did_fin ?_ (Below.cast' ((HB.out.setCell (p := ⟨g8, 0, none⟩) (Nat.le_refl _) _).setCell (p := ⟨g8, 1, none⟩) (Nat.le_refl _) _) HG.out)); simp; unfold hold; (try unfold wrap64); omega)
      | (refine bodyPost_ret (v := .agg #[.int .i64 (wrap64 (-wrap64 Q)), .bool true]) (by simp [results, Try.results71, go_sem, m0, m1]; done) rfl (did_fin ?_ (Below.cast' ((HB.out.setCell (p := ⟨g8, 0, none⟩) (Nat.le_refl _) _).setCell (p := ⟨g8, 1, none⟩) (Nat.le_refl _) _) HG.out)); simp; unfold hold; (try unfold wrap64); omega)
      | (refine bodyPost_ret (v := .agg #[.int .i64 (wrap64 (-wrap64 (Q + 1))), .bool true]) (by simp [results, Try.results71, go_sem, m0, m1]; done) rfl (did_fin ?_ (Below.cast' ((HB.out.setCell (p := ⟨g8, 0, none⟩) (Nat.le_refl _) _).setCell (p := ⟨g8, 1, none⟩) (Nat.le_refl _) _) HG.out)); simp; unfold hold; (try unfold wrap64); omega)
      | (refine bodyPost_ret (v := .agg #[.int .i64 (wrap64 Q), .bool true]) (by simp [results, Try.results71, go_sem, m0, m1]; done) rfl (did_fin ?_ (Below.cast' ((HB.out.setCell (p := ⟨g8, 0, none⟩) (Nat.le_refl _) _).setCell (p := ⟨g8, 1, none⟩) (Nat.le_refl _) _) HG.out)); simp; unfold hold; (try unfold wrap64); omega)
      | (refine bodyPost_ret (v := .agg #[.int .i64 (wrap64 (Q + 1)), .bool true]) (by simp [results, Try.results71, go_sem, m0, m1]; done) rfl (did_fin ?_ (Below.cast' ((HB.out.setCell (p := ⟨g8, 0, none⟩) (Nat.le_refl _) _).setCell (p := ⟨g8, 1, none⟩) (Nat.le_refl _) _) HG.out)); simp; unfold hold; (try unfold wrap64); omega)
  | true =>
   cases over with
   | false =>
    by_cases hq : Q < 18446744073709551615
    ·have kz : (Q + 1 == 0) = false := beq_eq_false_iff_ne.2 (by omega)
     go_wp2_with fail
     all_goals (have hz := hZ.out; simp at hz)
     all_goals first
      | (refine bodyPost_ret (v := .agg #[.int .i64 (-9223372036854775808), .bool false]) (by simp [results, Try.results71, go_sem, m0, m1]; done) rfl (did_fin ?_ (Below.cast' ((HB.out.setCell (p := ⟨g8, 0, none⟩) (Nat.le_refl _) _).setCell (p := ⟨g8, 1, none⟩) (Nat.le_refl _) _) HG.out)); simp; unfold hold; (try unfold wrap64); omega)
      | (refine bodyPost_ret (v := .agg #[.int .i64 9223372036854775807, .bool false]) (by simp [results, Try.results71, go_sem, m0, m1]; done) rfl (did_fin ?_ (Below.cast' ((HB.out.setCell (p := ⟨g8, 0, none⟩) (Nat.le_refl _) _).setCell (p := ⟨g8, 1, none⟩) (Nat.le_refl _) _) HG.out)); simp; unfold hold; (try unfold wrap64); omega)
      | (refine bodyPost_ret (v := .agg #[.int .i64 Q, .bool true]) (by simp [results, Try.results71, go_sem, m0, m1]; done) rfl (did_fin ?_ (Below.cast' ((HB.out.setCell (p := ⟨g8, 0, none⟩) (Nat.le_refl _) _).setCell (p := ⟨g8, 1, none⟩) (Nat.le_refl _) _) HG.out)); simp; unfold hold; (try unfold wrap64); omega)
      | (refine bodyPost_ret (v := .agg #[.int .i64 (Q + 1), .bool true]) (by simp [results, Try.results71, go_sem, m0, m1]; done) rfl (did_fin ?_ (Below.cast' ((HB.out.setCell (p := ⟨g8, 0, none⟩) (Nat.le_refl _) _).setCell (p := ⟨g8, 1, none⟩) (Nat.le_refl _) _) HG.out)); simp; unfold hold; (try unfold wrap64); omega)
      | (refine bodyPost_ret (v := .agg #[.int .i64 (wrap64 (-wrap64 Q)), .bool true]) (by simp [results, Try.results71, go_sem, m0, m1]; done) rfl (did_fin ?_ (Below.cast' ((HB.out.setCell (p := ⟨g8, 0, none⟩) (Nat.le_refl _) _).setCell (p := ⟨g8, 1, none⟩) (Nat.le_refl _) _) HG.out)); simp; unfold hold; (try unfold wrap64); omega)
      | (refine bodyPost_ret (v := .agg #[.int .i64 (wrap64 (-wrap64 (Q + 1))), .bool true]) (by simp [results, Try.results71, go_sem, m0, m1]; done) rfl (did_fin ?_ (Below.cast' ((HB.out.setCell (p := ⟨g8, 0, none⟩) (Nat.le_refl _) _).setCell (p := ⟨g8, 1, none⟩) (Nat.le_refl _) _) HG.out)); simp; unfold hold; (try unfold wrap64); omega)
      | (refine bodyPost_ret (v := .agg #[.int .i64 (wrap64 Q), .bool true]) (by simp [results, Try.results71, go_sem, m0, m1]; done) rfl (did_fin ?_ (Below.cast' ((HB.out.setCell (p := ⟨g8, 0, none⟩) (Nat.le_refl _) _).setCell (p := ⟨g8, 1, none⟩) (Nat.le_refl _) _) HG.out)); simp; unfold hold; (try unfold wrap64); omega)
      | (refine bodyPost_ret (v := .agg #[.int .i64 (wrap64 (Q + 1)), .bool true]) (by simp [results, Try.results71, go_sem, m0, m1]; done) rfl (did_fin ?_ (Below.cast' ((HB.out.setCell (p := ⟨g8, 0, none⟩) (Nat.le_refl _) _).setCell (p := ⟨g8, 1, none⟩) (Nat.le_refl _) _) HG.out)); simp; unfold hold; (try unfold wrap64); omega)
    ·have hq2 : Q = 18446744073709551615 := by omega
     subst hq2
     go_wp2_with fail
     all_goals (have hz := hZ.out; simp at hz)
     all_goals first
      | (refine bodyPost_ret (v := .agg #[.int .i64 (-9223372036854775808), .bool false]) (by simp [results, Try.results71, go_sem, m0, m1]; done) rfl (did_fin ?_ (Below.cast' ((HB.out.setCell (p := ⟨g8, 0, none⟩) (Nat.le_refl _) _).setCell (p := ⟨g8, 1, none⟩) (Nat.le_refl _) _) HG.out)); simp; unfold hold; (try unfold wrap64); omega)
      | (refine bodyPost_ret (v := .agg #[.int .i64 9223372036854775807, .bool false]) (by simp [results, Try.results71, go_sem, m0, m1]; done) rfl (did_fin ?_ (Below.cast' ((HB.out.setCell (p := ⟨g8, 0, none⟩) (Nat.le_refl _) _).setCell (p := ⟨g8, 1, none⟩) (Nat.le_refl _) _) HG.out)); simp; unfold hold; (try unfold wrap64); omega)
      | (refine bodyPost_ret (v := .agg #[.int .i64 Q, .bool true]) (by simp [results, Try.results71, go_sem, m0, m1]; done) rfl (did_fin ?_ (Below.cast' ((HB.out.setCell (p := ⟨g8, 0, none⟩) (Nat.le_refl _) _).setCell (p := ⟨g8, 1, none⟩) (Nat.le_refl _) _) HG.out)); simp; unfold hold; (try unfold wrap64); omega)
      | (refine bodyPost_ret (v := .agg #[.int .i64 (Q + 1), .bool true]) (by simp [results, Try.results71, go_sem, m0, m1]; done) rfl (did_fin ?_ (Below.cast' ((HB.out.setCell (p := ⟨g8, 0, none⟩) (Nat.le_refl _) _).setCell (p := ⟨g8, 1, none⟩) (Nat.le_refl _) _) HG.out)); simp; unfold hold; (try unfold wrap64); omega)
      | (refine bodyPost_ret (v := .agg #[.int .i64 (wrap64 (-wrap64 Q)), .bool true]) (by simp [results, Try.results71, go_sem, m0, m1]; done) rfl (did_fin ?_ (Below.cast' ((HB.out.setCell (p := ⟨g8, 0, none⟩) (Nat.le_refl _) _).setCell (p := ⟨g8, 1, none⟩) (Nat.le_refl _) _) HG.out)); simp; unfold hold; (try unfold wrap64); omega)
      | (refine bodyPost_ret (v := .agg #[.int .i64 (wrap64 (-wrap64 (Q + 1))), .bool true]) (by simp [results, Try.results71, go_sem, m0, m1]; done) rfl (did_fin ?_ (Below.cast' ((HB.out.setCell (p := ⟨g8, 0, none⟩) (Nat.le_refl _) _).setCell (p := ⟨g8, 1, none⟩) (Nat.le_refl _) _) HG.out)); simp; unfold hold; (try unfold wrap64); omega)
      | (refine bodyPost_ret (v := .agg #[.int .i64 (wrap64 Q), .bool true]) (by simp [results, Try.results71, go_sem, m0, m1]; done) rfl (did_fin ?_ (Below.cast' ((HB.out.setCell (p := ⟨g8, 0, none⟩) (Nat.le_refl _) _).setCell (p := ⟨g8, 1, none⟩) (Nat.le_refl _) _) HG.out)); simp; unfold hold; (try unfold wrap64); omega)
      | (refine bodyPost_ret (v := .agg #[.int .i64 (wrap64 (Q + 1)), .bool true]) (by simp [results, Try.results71, go_sem, m0, m1]; done) rfl (did_fin ?_ (Below.cast' ((HB.out.setCell (p := ⟨g8, 0, none⟩) (Nat.le_refl _) _).setCell (p := ⟨g8, 1, none⟩) (Nat.le_refl _) _) HG.out)); simp; unfold hold; (try unfold wrap64); omega)
   | true =>
    by_cases hq : Q < 18446744073709551615
    ·have kz : (Q + 1 == 0) = false := beq_eq_false_iff_ne.2 (by omega)
     go_wp2_with fail
     all_goals (have hz := hZ.out; simp at hz)
     all_goals first
      | (refine bodyPost_ret (v := .agg #[.int .i64 (-9223372036854775808), .bool false]) (by simp [results, Try.results71, go_sem, m0, m1]; done) rfl (did_fin ?_ (Below.cast' ((HB.out.setCell (p := ⟨g8, 0, none⟩) (Nat.le_refl _) _).setCell (p := ⟨g8, 1, none⟩) (Nat.le_refl _) _) HG.out)); simp; unfold hold; (try unfold wrap64); omega)
      | (refine bodyPost_ret (v := .agg #[.int .i64 9223372036854775807, .bool false]) (by simp [results, Try.results71, go_sem, m0, m1]; done) rfl (did_fin ?_ (Below.cast' ((HB.out.setCell (p := ⟨g8, 0, none⟩) (Nat.le_refl _) _).setCell (p := ⟨g8, 1, none⟩) (Nat.le_refl _) _) HG.out)); simp; unfold hold; (try unfold wrap64); omega)
      | (refine bodyPost_ret (v := .agg #[.int .i64 Q, .bool true]) (by simp [results, Try.results71, go_sem, m0, m1]; done) rfl (did_fin ?_ (Below.cast' ((HB.out.setCell (p := ⟨g8, 0, none⟩) (Nat.le_refl _) _).setCell (p := ⟨g8, 1, none⟩) (Nat.le_refl _) _) HG.out)); simp; unfold hold; (try unfold wrap64); omega)
      | (refine bodyPost_ret (v := .agg #[.int .i64 (Q + 1), .bool true]) (by simp [results, Try.results71, go_sem, m0, m1]; done) rfl (did_fin ?_ (Below.cast' ((HB.out.setCell (p := ⟨g8, 0, none⟩) (Nat.le_refl _) _).setCell (p := ⟨g8, 1, none⟩) (Nat.le_refl _) _) HG.out)); simp; unfold hold; (try unfold wrap64); omega)
      | (refine bodyPost_ret (v := .agg #[.int .i64 (wrap64 (-wrap64 Q)), .bool true]) (by simp [results, Try.results71, go_sem, m0, m1]; done) rfl (did_fin ?_ (Below.cast' ((HB.out.setCell (p := ⟨g8, 0, none⟩) (Nat.le_refl _) _).setCell (p := ⟨g8, 1, none⟩) (Nat.le_refl _) _) HG.out)); simp; unfold hold; (try unfold wrap64); omega)
      | (refine bodyPost_ret (v := .agg #[.int .i64 (wrap64 (-wrap64 (Q + 1))), .bool true]) (by simp [results, Try.results71, go_sem, m0, m1]; done) rfl (did_fin ?_ (Below.cast' ((HB.out.setCell (p := ⟨g8, 0, none⟩) (Nat.le_refl _) _).setCell (p := ⟨g8, 1, none⟩) (Nat.le_refl _) _) HG.out)); simp; unfold hold; (try unfold wrap64); omega)
      | (refine bodyPost_ret (v := .agg #[.int .i64 (wrap64 Q), .bool true]) (by simp [results, Try.results71, go_sem, m0, m1]; done) rfl (did_fin ?_ (Below.cast' ((HB.out.setCell (p := ⟨g8, 0, none⟩) (Nat.le_refl _) _).setCell (p := ⟨g8, 1, none⟩) (Nat.le_refl _) _) HG.out)); simp; unfold hold; (try unfold wrap64); omega)
      | (refine bodyPost_ret (v := .agg #[.int .i64 (wrap64 (Q + 1)), .bool true]) (by simp [results, Try.results71, go_sem, m0, m1]; done) rfl (did_fin ?_ (Below.cast' ((HB.out.setCell (p := ⟨g8, 0, none⟩) (Nat.le_refl _) _).setCell (p := ⟨g8, 1, none⟩) (Nat.le_refl _) _) HG.out)); simp; unfold hold; (try unfold wrap64); omega)
    ·have hq2 : Q = 18446744073709551615 := by omega
     subst hq2
     go_wp2_with fail
     all_goals (have hz := hZ.out; simp at hz)
     all_goals first
      | (refine bodyPost_ret (v := .agg #[.int .i64 (-9223372036854775808), .bool false]) (by simp [results, Try.results71, go_sem, m0, m1]; done) rfl (did_fin ?_ (Below.cast' ((HB.out.setCell (p := ⟨g8, 0, none⟩) (Nat.le_refl _) _).setCell (p := ⟨g8, 1, none⟩) (Nat.le_refl _) _) HG.out)); simp; unfold hold; (try unfold wrap64); omega)
      | (refine bodyPost_ret (v := .agg #[.int .i64 9223372036854775807, .bool false]) (by simp [results, Try.results71, go_sem, m0, m1]; done) rfl (did_fin ?_ (Below.cast' ((HB.out.setCell (p := ⟨g8, 0, none⟩) (Nat.le_refl _) _).setCell (p := ⟨g8, 1, none⟩) (Nat.le_refl _) _) HG.out)); simp; unfold hold; (try unfold wrap64); omega)
      | (refine bodyPost_ret (v := .agg #[.int .i64 Q, .bool true]) (by simp [results, Try.results71, go_sem, m0, m1]; done) rfl (did_fin ?_ (Below.cast' ((HB.out.setCell (p := ⟨g8, 0, none⟩) (Nat.le_refl _) _).setCell (p := ⟨g8, 1, none⟩) (Nat.le_refl _) _) HG.out)); simp; unfold hold; (try unfold wrap64); omega)
      | (refine bodyPost_ret (v := .agg #[.int .i64 (Q + 1), .bool true]) (by simp [results, Try.results71, go_sem, m0, m1]; done) rfl (did_fin ?_ (Below.cast' ((HB.out.setCell (p := ⟨g8, 0, none⟩) (Nat.le_refl _) _).setCell (p := ⟨g8, 1, none⟩) (Nat.le_refl _) _) HG.out)); simp; unfold hold; (try unfold wrap64); omega)
      | (refine bodyPost_ret (v := .agg #[.int .i64 (wrap64 (-wrap64 Q)), .bool true]) (by simp [results, Try.results71, go_sem, m0, m1]; done) rfl (did_fin ?_ (Below.cast' ((HB.out.setCell (p := ⟨g8, 0, none⟩) (Nat.le_refl _) _).setCell (p := ⟨g8, 1, none⟩) (Nat.le_refl _) _) HG.out)); simp; unfold hold; (try unfold wrap64); omega)
      | (refine bodyPost_ret (v := .agg #[.int .i64 (wrap64 (-wrap64 (Q + 1))), .bool true]) (by simp [results, Try.results71, go_sem, m0, m1]; done) rfl (did_fin ?_ (Below.cast' ((HB.out.setCell (p := ⟨g8, 0, none⟩) (Nat.le_refl _) _).setCell (p := ⟨g8, 1, none⟩) (Nat.le_refl _) _) HG.out)); simp; unfold hold; (try unfold wrap64); omega)
      | (refine bodyPost_ret (v := .agg #[.int .i64 (wrap64 Q), .bool true]) (by simp [results, Try.results71, go_sem, m0, m1]; done) rfl (did_fin ?_ (Below.cast' ((HB.out.setCell (p := ⟨g8, 0, none⟩) (Nat.le_refl _) _).setCell (p := ⟨g8, 1, none⟩) (Nat.le_refl _) _) HG.out)); simp; unfold hold; (try unfold wrap64); omega)
      | (refine bodyPost_ret (v := .agg #[.int .i64 (wrap64 (Q + 1)), .bool true]) (by simp [results, Try.results71, go_sem, m0, m1]; done) rfl (did_fin ?_ (Below.cast' ((HB.out.setCell (p := ⟨g8, 0, none⟩) (Nat.le_refl _) _).setCell (p := ⟨g8, 1, none⟩) (Nat.le_refl _) _) HG.out)); simp; unfold hold; (try unfold wrap64); omega)
 ·go_wp2_with fail
  rw [← hg8, ← hgp]
  clear hg8 hgp
  generalize w3.alloc (.cells #[.int .u64 Q, .bool over, .int .u64 L] 158) = w4 at *
  go_quiet (first | (go_at_call 81; refine Calls.quiet_of_same (H3.out _)) | fail)
  have p0 : (w4.drewN nq).cell? ⟨gp, 0, none⟩ = some (.int .u64 Q) := p0
  have p1 : (w4.drewN nq).cell? ⟨gp, 1, none⟩ = some (.bool over) := p1
  have f0 : (w4.drewN nq).frozen? ⟨g8, 0, none⟩ = false := f0
  have f1 : (w4.drewN nq).frozen? ⟨g8, 1, none⟩ = false := f1
  have m0 : (w4.drewN nq).cell? ⟨g8, 0, none⟩ = some (.int .i64 0) := m0
  have m1 : (w4.drewN nq).cell? ⟨g8, 1, none⟩ = some (.bool false) := m1
  have HB : Aside0 (Below g8 w (w4.drewN nq)) := ⟨HB.out.trans ((pw_below_drewN (Below.refl _ _) nq).mono (by rw [HG.out]; exact HB.out.size))⟩
  generalize w4.drewN nq = w4 at *
  go_wp2_with fail
  go_quiet (fail)
  have p0 : (w4.drewN nq).cell? ⟨gp, 0, none⟩ = some (.int .u64 Q) := p0
  have p1 : (w4.drewN nq).cell? ⟨gp, 1, none⟩ = some (.bool over) := p1
  have f0 : (w4.drewN nq).frozen? ⟨g8, 0, none⟩ = false := f0
  have f1 : (w4.drewN nq).frozen? ⟨g8, 1, none⟩ = false := f1
  have m0 : (w4.drewN nq).cell? ⟨g8, 0, none⟩ = some (.int .i64 0) := m0
  have m1 : (w4.drewN nq).cell? ⟨g8, 1, none⟩ = some (.bool false) := m1
  have HB : Aside0 (Below g8 w (w4.drewN nq)) := ⟨HB.out.trans ((pw_below_drewN (Below.refl _ _) nq).mono (by rw [HG.out]; exact HB.out.size))⟩
  generalize w4.drewN nq = w4 at *
  cases U with
  | false =>
   cases over with
   | false =>
    by_cases hq : Q < 18446744073709551615
    ·have kz : (Q + 1 == 0) = false := beq_eq_false_iff_ne.2 (by omega)
     go_wp2_with fail
     all_goals (have hz := hZ.out; simp at hz)
     all_goals first
      | (refine bodyPost_ret (v := .agg #[.int .i64 (-9223372036854775808), .bool false]) (by simp [results, Try.results71, go_sem, m0, m1]; done) rfl (did_fin ?_ (Below.cast' ((HB.out.setCell (p := ⟨g8, 0, none⟩) (Nat.le_refl _) _).setCell (p := ⟨g8, 1, none⟩) (Nat.le_refl _) _) HG.out)); simp; unfold hold; (try unfold wrap64); omega)
      | (refine bodyPost_ret (v := .agg #[.int .i64 9223372036854775807, .bool false]) (by simp [results, Try.results71, go_sem, m0, m1]; done) rfl (did_fin ?_ (Below.cast' ((HB.out.setCell (p := ⟨g8, 0, none⟩) (Nat.le_refl _) _).setCell (p := ⟨g8, 1, none⟩) (Nat.le_refl _) _) HG.out)); simp; unfold hold; (try unfold wrap64); omega)
      | (refine bodyPost_ret (v := .agg #[.int .i64 Q, .bool true]) (by simp [results, Try.results71, go_sem, m0, m1]; done) rfl (did_fin ?_ (Below.cast' ((HB.out.setCell (p := ⟨g8, 0, none⟩) (Nat.le_refl _) _).setCell (p := ⟨g8, 1, none⟩) (Nat.le_refl _) _) HG.out)); simp; unfold hold; (try unfold wrap64); omega)
      | (refine bodyPost_ret (v := .agg #[.int .i64 (Q + 1), .bool true]) (by simp [results, Try.results71, go_sem, m0, m1]; done) rfl (did_fin ?_ (Below.cast' ((HB.out.setCell (p := ⟨g8, 0, none⟩) (Nat.le_refl _) _).setCell (p := ⟨g8, 1, none⟩) (Nat.le_refl _) _) HG.out)); simp; unfold hold; (try unfold wrap64); omega)
      | (refine bodyPost_ret (v := .agg #[.int .i64 (wrap64 (-wrap64 Q)), .bool true]) (by simp [results, Try.results71, go_sem, m0, m1]; done) rfl (did_fin ?_ (Below.cast' ((HB.out.setCell (p := ⟨g8, 0, none⟩) (Nat.le_refl _) _).setCell (p := ⟨g8, 1, none⟩) (Nat.le_refl _) _) HG.out)); simp; unfold hold; (try unfold wrap64); omega)
      | (refine bodyPost_ret (v := .agg #[.int .i64 (wrap64 (-wrap64 (Q + 1))), .bool true]) (by simp [results, Try.results71, go_sem, m0, m1]; done) rfl (did_fin ?_ (Below.cast' ((HB.out.setCell (p := ⟨g8, 0, none⟩) (Nat.le_refl _) _).setCell (p := ⟨g8, 1, none⟩) (Nat.le_refl _) _) HG.out)); simp; unfold hold; (try unfold wrap64); omega)
      | (refine bodyPost_ret (v := .agg #[.int .i64 (wrap64 Q), .bool true]) (by simp [results, Try.results71, go_sem, m0, m1]; done) rfl (did_fin ?_ (Below.cast' ((HB.out.setCell (p := ⟨g8, 0, none⟩) (Nat.le_refl _) _).setCell (p := ⟨g8, 1, none⟩) (Nat.le_refl _) _) HG.out)); simp; unfold hold; (try unfold wrap64); omega)
      | (refine bodyPost_ret (v := .agg #[.int .i64 (wrap64 (Q + 1)), .bool true]) (by simp [results, Try.results71, go_sem, m0, m1]; done) rfl (did_fin ?_ (Below.cast' ((HB.out.setCell (p := ⟨g8, 0, none⟩) (Nat.le_refl _) _).setCell (p := ⟨g8, 1, none⟩) (Nat.le_refl _) _) HG.out)); simp; unfold hold; (try unfold wrap64); omega)
    ·have hq2 : Q = 18446744073709551615 := by omega
     subst hq2
     go_wp2_with fail
     all_goals (have hz := hZ.out; simp at hz)
     all_goals first
      | (refine bodyPost_ret (v := .agg #[.int .i64 (-9223372036854775808), .bool false]) (by simp [results, Try.results71, go_sem, m0, m1]; done) rfl (did_fin ?_ (Below.cast' ((HB.out.setCell (p := ⟨g8, 0, none⟩) (Nat.le_refl _) _).setCell (p := ⟨g8, 1, none⟩) (Nat.le_refl _) _) HG.out)); simp; unfold hold; (try unfold wrap64); omega)
      | (refine bodyPost_ret (v := .agg #[.int .i64 9223372036854775807, .bool false]) (by simp [results, Try.results71, go_sem, m0, m1]; done) rfl (did_fin ?_ (Below.cast' ((HB.out.setCell (p := ⟨g8, 0, none⟩) (Nat.le_refl _) _).setCell (p := ⟨g8, 1, none⟩) (Nat.le_refl _) _) HG.out)); simp; unfold hold; (try unfold wrap64); omega)
      | (refine bodyPost_ret (v := .agg #[.int .i64 Q, .bool true]) (by simp [results, Try.results71, go_sem, m0, m1]; done) rfl (did_fin ?_ (Below.cast' ((HB.out.setCell (p := ⟨g8, 0, none⟩) (Nat.le_refl _) _).setCell (p := ⟨g8, 1, none⟩) (Nat.le_refl _) _) HG.out)); simp; unfold hold; (try unfold wrap64); omega)
      | (refine bodyPost_ret (v := .agg #[.int .i64 (Q + 1), .bool true]) (by simp [results, Try.results71, go_sem, m0, m1]; done) rfl (did_fin ?_ (Below.cast' ((HB.out.setCell (p := ⟨g8, 0, none⟩) (Nat.le_refl _) _).setCell (p := ⟨g8, 1, none⟩) (Nat.le_refl _) _) HG.out)); simp; unfold hold; (try unfold wrap64); omega)
      | (refine bodyPost_ret (v := .agg #[.int .i64 (wrap64 (-wrap64 Q)), .bool true]) (by simp [results, Try.results71, go_sem, m0, m1]; done) rfl (did_fin ?_ (Below.cast' ((HB.out.setCell (p := ⟨g8, 0, none⟩) (Nat.le_refl _) _).setCell (p := ⟨g8, 1, none⟩) (Nat.le_refl _) _) HG.out)); simp; unfold hold; (try unfold wrap64); omega)
      | (refine bodyPost_ret (v := .agg #[.int .i64 (wrap64 (-wrap64 (Q + 1))), .bool true]) (by simp [results, Try.results71, go_sem, m0, m1]; done) rfl (did_fin ?_ (Below.cast' ((HB.out.setCell (p := ⟨g8, 0, none⟩) (Nat.le_refl _) _).setCell (p := ⟨g8, 1, none⟩) (Nat.le_refl _) _) HG.out)); simp; unfold hold; (try unfold wrap64); omega)
      | (refine bodyPost_ret (v := .agg #[.int .i64 (wrap64 Q), .bool true]) (by simp [results, Try.results71, go_sem, m0, m1]; done) rfl (did_fin ?_ (Below.cast' ((HB.out.setCell (p := ⟨g8, 0, none⟩) (Nat.le_refl _) _).setCell (p := ⟨g8, 1, none⟩) (Nat.le_refl _) _) HG.out)); simp; unfold hold; (try unfold wrap64); omega)
      | (refine bodyPost_ret (v := .agg #[.int .i64 (wrap64 (Q + 1)), .bool true]) (by simp [results, Try.results71, go_sem, m0, m1]; done) rfl (did_fin ?_ (Below.cast' ((HB.out.setCell (p := ⟨g8, 0, none⟩) (Nat.le_refl _) _).setCell (p := ⟨g8, 1, none⟩) (Nat.le_refl _) _) HG.out)); simp; unfold hold; (try unfold wrap64); omega)
   | true =>
    by_cases hq : Q < 18446744073709551615
    ·have kz : (Q + 1 == 0) = false := beq_eq_false_iff_ne.2 (by omega)
     go_wp2_with fail
     all_goals (have hz := hZ.out; simp at hz)
     all_goals first
      | (refine bodyPost_ret (v := .agg #[.int .i64 (-9223372036854775808), .bool false]) (by simp [results, Try.results71, go_sem, m0, m1]; done) rfl (did_fin ?_ (Below.cast' ((HB.out.setCell (p := ⟨g8, 0, none⟩) (Nat.le_refl _) _).setCell (p := ⟨g8, 1, none⟩) (Nat.le_refl _) _) HG.out)); simp; unfold hold; (try unfold wrap64); omega)
      | (refine bodyPost_ret (v := .agg #[.int .i64 9223372036854775807, .bool false]) (by simp [results, Try.results71, go_sem, m0, m1]; done) rfl (did_fin ?_ (Below.cast' ((HB.out.setCell (p := ⟨g8, 0, none⟩) (Nat.le_refl _) _).setCell (p := ⟨g8, 1, none⟩) (Nat.le_refl _) _) HG.out)); simp; unfold hold; (try unfold wrap64); omega)
      | (refine bodyPost_ret (v := .agg #[.int .i64 Q, .bool true]) (by simp [results, Try.results71, go_sem, m0, m1]; done) rfl (did_fin ?_ (Below.cast' ((HB.out.setCell (p := ⟨g8, 0, none⟩) (Nat.le_refl _) _).setCell (p := ⟨g8, 1, none⟩) (Nat.le_refl _) _) HG.out)); simp; unfold hold; (try unfold wrap64); omega)
      | (refine bodyPost_ret (v := .agg #[.int .i64 (Q + 1), .bool true]) (by simp [results, Try.results71, go_sem, m0, m1]; done) rfl (did_fin ?_ (Below.cast' ((HB.out.setCell (p := ⟨g8, 0, none⟩) (Nat.le_refl _) _).setCell (p := ⟨g8, 1, none⟩) (Nat.le_refl _) _) HG.out)); simp; unfold hold; (try unfold wrap64); omega)
      | (refine bodyPost_ret (v := .agg #[.int .i64 (wrap64 (-wrap64 Q)), .bool true]) (by simp [results, Try.results71, go_sem, m0, m1]; done) rfl (did_fin ?_ (Below.cast' ((HB.out.setCell (p := ⟨g8, 0, none⟩) (Nat.le_refl _) _).setCell (p := ⟨g8, 1, none⟩) (Nat.le_refl _) _) HG.out)); simp; unfold hold; (try unfold wrap64); omega)
      | (refine bodyPost_ret (v := .agg #[.int .i64 (wrap64 (-wrap64 (Q + 1))), .bool true]) (by simp [results, Try.results71, go_sem, m0, m1]; done) rfl (did_fin ?_ (Below.cast' ((HB.out.setCell (p := ⟨g8, 0, none⟩) (Nat.le_refl _) _).setCell (p := ⟨g8, 1, none⟩) (Nat.le_refl _) _) HG.out)); simp; unfold hold; (try unfold wrap64); omega)
      | (refine bodyPost_ret (v := .agg #[.int .i64 (wrap64 Q), .bool true]) (by simp [results, Try.results71, go_sem, m0, m1]; done) rfl (did_fin ?_ (Below.cast' ((HB.out.setCell (p := ⟨g8, 0, none⟩) (Nat.le_refl _) _).setCell (p := ⟨g8, 1, none⟩) (Nat.le_refl _) _) HG.out)); simp; unfold hold; (try unfold wrap64); omega)
      | (refine bodyPost_ret (v := .agg #[.int .i64 (wrap64 (Q + 1)), .bool true]) (by simp [results, Try.results71, go_sem, m0, m1]; done) rfl (did_fin ?_ (Below.cast' ((HB.out.setCell (p := ⟨g8, 0, none⟩) (Nat.le_refl _) _).setCell (p := ⟨g8, 1, none⟩) (Nat.le_refl _) _) HG.out)); simp; unfold hold; (try unfold wrap64); omega)
    ·have hq2 : Q = 18446744073709551615 := by omega
     subst hq2
     go_wp2_with fail
     all_goals (have hz := hZ.out; simp at hz)
     all_goals first
      | (refine bodyPost_ret (v := .agg #[.int .i64 (-9223372036854775808), .bool false]) (by simp [results, Try.results71, go_sem, m0, m1]; done) rfl (did_fin ?_ (Below.cast' ((HB.out.setCell (p := ⟨g8, 0, none⟩) (Nat.le_refl _) _).setCell (p := ⟨g8, 1, none⟩) (Nat.le_refl _) _) HG.out)); simp; unfold hold; (try unfold wrap64); omega)
      | (refine bodyPost_ret (v := .agg #[.int .i64 9223372036854775807, .bool false]) (by simp [results, Try.results71, go_sem, m0, m1]; done) rfl (did_fin ?_ (Below.cast' ((HB.out.setCell (p := ⟨g8, 0, none⟩) (Nat.le_refl _) _).setCell (p := ⟨g8, 1, none⟩) (Nat.le_refl _) _) HG.out)); simp; unfold hold; (try unfold wrap64); omega)
      | (refine bodyPost_ret (v := .agg #[.int .i64 Q, .bool true]) (by simp [results, Try.results71, go_sem, m0, m1]; done) rfl (did_fin ?_ (Below.cast' ((HB.out.setCell (p := ⟨g8, 0, none⟩) (Nat.le_refl _) _).setCell (p := ⟨g8, 1, none⟩) (Nat.le_refl _) _) HG.out)); simp; unfold hold; (try unfold wrap64); omega)
      | (refine bodyPost_ret (v := .agg #[.int .i64 (Q + 1), .bool true]) (by simp [results, Try.results71, go_sem, m0, m1]; done) rfl (did_fin ?_ (Below.cast' ((HB.out.setCell (p := ⟨g8, 0, none⟩) (Nat.le_refl _) _).setCell (p := ⟨g8, 1, none⟩) (Nat.le_refl _) _) HG.out)); simp; unfold hold; (try unfold wrap64); omega)
      | (refine bodyPost_ret (v := .agg #[.int .i64 (wrap64 (-wrap64 Q)), .bool true]) (by simp [results, Try.results71, go_sem, m0, m1]; done) rfl (did_fin ?_ (Below.cast' ((HB.out.setCell (p := ⟨g8, 0, none⟩) (Nat.le_refl _) _).setCell (p := ⟨g8, 1, none⟩) (Nat.le_refl _) _) HG.out)); simp; unfold hold; (try unfold wrap64); omega)
      | (refine bodyPost_ret (v := .agg #[.int .i64 (wrap64 (-wrap64 (Q + 1))), .bool true]) (by simp [results, Try.results71, go_sem, m0, m1]; done) rfl (did_fin ?_ (Below.cast' ((HB.out.setCell (p := ⟨g8, 0, none⟩) (Nat.le_refl _) _).setCell (p := ⟨g8, 1, none⟩) (Nat.le_refl _) _) HG.out)); simp; unfold hold; (try unfold wrap64); omega)
      | (refine bodyPost_ret (v := .agg #[.int .i64 (wrap64 Q), .bool true]) (by simp [results, Try.results71, go_sem, m0, m1]; done) rfl (did_fin ?_ (Below.cast' ((HB.out.setCell (p := ⟨g8, 0, none⟩) (Nat.le_refl _) _).setCell (p := ⟨g8, 1, none⟩) (Nat.le_refl _) _) HG.out)); simp; unfold hold; (try unfold wrap64); omega)
      | (refine bodyPost_ret (v := .agg #[.int .i64 (wrap64 (Q + 1)), .bool true]) (by simp [results, Try.results71, go_sem, m0, m1]; done) rfl (did_fin ?_ (Below.cast' ((HB.out.setCell (p := ⟨g8, 0, none⟩) (Nat.le_refl _) _).setCell (p := ⟨g8, 1, none⟩) (Nat.le_refl _) _) HG.out)); simp; unfold hold; (try unfold wrap64); omega)
  | true =>
   cases over with
   | false =>
    by_cases hq : Q < 18446744073709551615
    ·have kz : (Q + 1 == 0) = false := beq_eq_false_iff_ne.2 (by omega)
     go_wp2_with fail
     all_goals (have hz := hZ.out; simp at hz)
     all_goals first
      | (refine bodyPost_ret (v := .agg #[.int .i64 (-9223372036854775808), .bool false]) (by simp [results, Try.results71, go_sem, m0, m1]; done) rfl (did_fin ?_ (Below.cast' ((HB.out.setCell (p := ⟨g8, 0, none⟩) (Nat.le_refl _) _).setCell (p := ⟨g8, 1, none⟩) (Nat.le_refl _) _) HG.out)); simp; unfold hold; (try unfold wrap64); omega)
      | (refine bodyPost_ret (v := .agg #[.int .i64 9223372036854775807, .bool false]) (by simp [results, Try.results71, go_sem, m0, m1]; done) rfl (did_fin ?_ (Below.cast' ((HB.out.setCell (p := ⟨g8, 0, none⟩) (Nat.le_refl _) _).setCell (p := ⟨g8, 1, none⟩) (Nat.le_refl _) _) HG.out)); simp; unfold hold; (try unfold wrap64); omega)
      | (refine bodyPost_ret (v := .agg #[.int .i64 Q, .bool true]) (by simp [results, Try.results71, go_sem, m0, m1]; done) rfl (did_fin ?_ (Below.cast' ((HB.out.setCell (p := ⟨g8, 0, none⟩) (Nat.le_refl _) _).setCell (p := ⟨g8, 1, none⟩) (Nat.le_refl _) _) HG.out)); simp; unfold hold; (try unfold wrap64); omega)
      | (refine bodyPost_ret (v := .agg #[.int .i64 (Q + 1), .bool true]) (by simp [results, Try.results71, go_sem, m0, m1]; done) rfl (did_fin ?_ (Below.cast' ((HB.out.setCell (p := ⟨g8, 0, none⟩) (Nat.le_refl _) _).setCell (p := ⟨g8, 1, none⟩) (Nat.le_refl _) _) HG.out)); simp; unfold hold; (try unfold wrap64); omega)
      | (refine bodyPost_ret (v := .agg #[.int .i64 (wrap64 (-wrap64 Q)), .bool true]) (by simp [results, Try.results71, go_sem, m0, m1]; done) rfl (did_fin ?_ (Below.cast' ((HB.out.setCell (p := ⟨g8, 0, none⟩) (Nat.le_refl _) _).setCell (p := ⟨g8, 1, none⟩) (Nat.le_refl _) _) HG.out)); simp; unfold hold; (try unfold wrap64); omega)
      | (refine bodyPost_ret (v := .agg #[.int .i64 (wrap64 (-wrap64 (Q + 1))), .bool true]) (by simp [results, Try.results71, go_sem, m0, m1]; done) rfl (did_fin ?_ (Below.cast' ((HB.out.setCell (p := ⟨g8, 0, none⟩) (Nat.le_refl _) _).setCell (p := ⟨g8, 1, none⟩) (Nat.le_refl _) _) HG.out)); simp; unfold hold; (try unfold wrap64); omega)
      | (refine bodyPost_ret (v := .agg #[.int .i64 (wrap64 Q), .bool true]) (by simp [results, Try.results71, go_sem, m0, m1]; done) rfl (did_fin ?_ (Below.cast' ((HB.out.setCell (p := ⟨g8, 0, none⟩) (Nat.le_refl _) _).setCell (p := ⟨g8, 1, none⟩) (Nat.le_refl _) _) HG.out)); simp; unfold hold; (try unfold wrap64); omega)
      | (refine bodyPost_ret (v := .agg #[.int .i64 (wrap64 (Q + 1)), .bool true]) (by simp [results, Try.results71, go_sem, m0, m1]; done) rfl (did_fin ?_ (Below.cast' ((HB.out.setCell (p := ⟨g8, 0, none⟩) (Nat.le_refl _) _).setCell (p := ⟨g8, 1, none⟩) (Nat.le_refl _) _) HG.out)); simp; unfold hold; (try unfold wrap64); omega)
    ·have hq2 : Q = 18446744073709551615 := by omega
     subst hq2
     go_wp2_with fail
     all_goals (have hz := hZ.out; simp at hz)
     all_goals first
      | (refine bodyPost_ret (v := .agg #[.int .i64 (-9223372036854775808), .bool false]) (by simp [results, Try.results71, go_sem, m0, m1]; done) rfl (did_fin ?_ (Below.cast' ((HB.out.setCell (p := ⟨g8, 0, none⟩) (Nat.le_refl _) _).setCell (p := ⟨g8, 1, none⟩) (Nat.le_refl _) _) HG.out)); simp; unfold hold; (try unfold wrap64); omega)
      | (refine bodyPost_ret (v := .agg #[.int .i64 9223372036854775807, .bool false]) (by simp [results, Try.results71, go_sem, m0, m1]; done) rfl (did_fin ?_ (Below.cast' ((HB.out.setCell (p := ⟨g8, 0, none⟩) (Nat.le_refl _) _).setCell (p := ⟨g8, 1, none⟩) (Nat.le_refl _) _) HG.out)); simp; unfold hold; (try unfold wrap64); omega)
      | (refine bodyPost_ret (v := .agg #[.int .i64 Q, .bool true]) (by simp [results, Try.results71, go_sem, m0, m1]; done) rfl (did_fin ?_ (Below.cast' ((HB.out.setCell (p := ⟨g8, 0, none⟩) (Nat.le_refl _) _).setCell (p := ⟨g8, 1, none⟩) (Nat.le_refl _) _) HG.out)); simp; unfold hold; (try unfold wrap64); omega)
      | (refine bodyPost_ret (v := .agg #[.int .i64 (Q + 1), .bool true]) (by simp [results, Try.results71, go_sem, m0, m1]; done) rfl (did_fin ?_ (Below.cast' ((HB.out.setCell (p := ⟨g8, 0, none⟩) (Nat.le_refl _) _).setCell (p := ⟨g8, 1, none⟩) (Nat.le_refl _) _) HG.out)); simp; unfold hold; (try unfold wrap64); omega)
      | (refine bodyPost_ret (v := .agg #[.int .i64 (wrap64 (-wrap64 Q)), .bool true]) (by simp [results, Try.results71, go_sem, m0, m1]; done) rfl (did_fin ?_ (Below.cast' ((HB.out.setCell (p := ⟨g8, 0, none⟩) (Nat.le_refl _) _).setCell (p := ⟨g8, 1, none⟩) (Nat.le_refl _) _) HG.out)); simp; unfold hold; (try unfold wrap64); omega)
      | (refine bodyPost_ret (v := .agg #[.int .i64 (wrap64 (-wrap64 (Q + 1))), .bool true]) (by simp [results, Try.results71, go_sem, m0, m1]; done) rfl (did_fin ?_ (Below.cast' ((HB.out.setCell (p := ⟨g8, 0, none⟩) (Nat.le_refl _) _).setCell (p := ⟨g8, 1, none⟩) (Nat.le_refl _) _) HG.out)); simp; unfold hold; (try unfold wrap64); omega)
      | (refine bodyPost_ret (v := .agg #[.int .i64 (wrap64 Q), .bool true]) (by simp [results, Try.results71, go_sem, m0, m1]; done) rfl (did_fin ?_ (Below.cast' ((HB.out.setCell (p := ⟨g8, 0, none⟩) (Nat.le_refl _) _).setCell (p := ⟨g8, 1, none⟩) (Nat.le_refl _) _) HG.out)); simp; unfold hold; (try unfold wrap64); omega)
      | (refine bodyPost_ret (v := .agg #[.int .i64 (wrap64 (Q + 1)), .bool true]) (by simp [results, Try.results71, go_sem, m0, m1]; done) rfl (did_fin ?_ (Below.cast' ((HB.out.setCell (p := ⟨g8, 0, none⟩) (Nat.le_refl _) _).setCell (p := ⟨g8, 1, none⟩) (Nat.le_refl _) _) HG.out)); simp; unfold hold; (try unfold wrap64); omega)
   | true =>
    by_cases hq : Q < 18446744073709551615
    ·have kz : (Q + 1 == 0) = false := beq_eq_false_iff_ne.2 (by omega)
     go_wp2_with fail
     all_goals (have hz := hZ.out; simp at hz)
     all_goals first
      | (refine bodyPost_ret (v := .agg #[.int .i64 (-9223372036854775808), .bool false]) (by simp [results, Try.results71, go_sem, m0, m1]; done) rfl (did_fin ?_ (Below.cast' ((HB.out.setCell (p := ⟨g8, 0, none⟩) (Nat.le_refl _) _).setCell (p := ⟨g8, 1, none⟩) (Nat.le_refl _) _) HG.out)); simp; unfold hold; (try unfold wrap64); omega)
      | (refine bodyPost_ret (v := .agg #[.int .i64 9223372036854775807, .bool false]) (by simp [results, Try.results71, go_sem, m0, m1]; done) rfl (did_fin ?_ (Below.cast' ((HB.out.setCell (p := ⟨g8, 0, none⟩) (Nat.le_refl _) _).setCell (p := ⟨g8, 1, none⟩) (Nat.le_refl _) _) HG.out)); simp; unfold hold; (try unfold wrap64); omega)
      | (refine bodyPost_ret (v := .agg #[.int .i64 Q, .bool true]) (by simp [results, Try.results71, go_sem, m0, m1]; done) rfl (did_fin ?_ (Below.cast' ((HB.out.setCell (p := ⟨g8, 0, none⟩) (Nat.le_refl _) _).setCell (p := ⟨g8, 1, none⟩) (Nat.le_refl _) _) HG.out)); simp; unfold hold; (try unfold wrap64); omega)
      | (refine bodyPost_ret (v := .agg #[.int .i64 (Q + 1), .bool true]) (by simp [results, Try.results71, go_sem, m0, m1]; done) rfl (did_fin ?_ (Below.cast' ((HB.out.setCell (p := ⟨g8, 0, none⟩) (Nat.le_refl _) _).setCell (p := ⟨g8, 1, none⟩) (Nat.le_refl _) _) HG.out)); simp; unfold hold; (try unfold wrap64); omega)
      | (refine bodyPost_ret (v := .agg #[.int .i64 (wrap64 (-wrap64 Q)), .bool true]) (by simp [results, Try.results71, go_sem, m0, m1]; done) rfl (did_fin ?_ (Below.cast' ((HB.out.setCell (p := ⟨g8, 0, none⟩) (Nat.le_refl _) _).setCell (p := ⟨g8, 1, none⟩) (Nat.le_refl _) _) HG.out)); simp; unfold hold; (try unfold wrap64); omega)
      | (refine bodyPost_ret (v := .agg #[.int .i64 (wrap64 (-wrap64 (Q + 1))), .bool true]) (by simp [results, Try.results71, go_sem, m0, m1]; done) rfl (did_fin ?_ (Below.cast' ((HB.out.setCell (p := ⟨g8, 0, none⟩) (Nat.le_refl _) _).setCell (p := ⟨g8, 1, none⟩) (Nat.le_refl _) _) HG.out)); simp; unfold hold; (try unfold wrap64); omega)
      | (refine bodyPost_ret (v := .agg #[.int .i64 (wrap64 Q), .bool true]) (by simp [results, Try.results71, go_sem, m0, m1]; done) rfl (did_fin ?_ (Below.cast' ((HB.out.setCell (p := ⟨g8, 0, none⟩) (Nat.le_refl _) _).setCell (p := ⟨g8, 1, none⟩) (Nat.le_refl _) _) HG.out)); simp; unfold hold; (try unfold wrap64); omega)
      | (refine bodyPost_ret (v := .agg #[.int .i64 (wrap64 (Q + 1)), .bool true]) (by simp [results, Try.results71, go_sem, m0, m1]; done) rfl (did_fin ?_ (Below.cast' ((HB.out.setCell (p := ⟨g8, 0, none⟩) (Nat.le_refl _) _).setCell (p := ⟨g8, 1, none⟩) (Nat.le_refl _) _) HG.out)); simp; unfold hold; (try unfold wrap64); omega)
    ·have hq2 : Q = 18446744073709551615 := by omega
     subst hq2
     go_wp2_with fail
     all_goals (have hz := hZ.out; simp at hz)
     all_goals first
      | (refine bodyPost_ret (v := .agg #[.int .i64 (-9223372036854775808), .bool false]) (by simp [results, Try.results71, go_sem, m0, m1]; done) rfl (did_fin ?_ (Below.cast' ((HB.out.setCell (p := ⟨g8, 0, none⟩) (Nat.le_refl _) _).setCell (p := ⟨g8, 1, none⟩) (Nat.le_refl _) _) HG.out)); simp; unfold hold; (try unfold wrap64); omega)
      | (refine bodyPost_ret (v := .agg #[.int .i64 9223372036854775807, .bool false]) (by simp [results, Try.results71, go_sem, m0, m1]; done) rfl (did_fin ?_ (Below.cast' ((HB.out.setCell (p := ⟨g8, 0, none⟩) (Nat.le_refl _) _).setCell (p := ⟨g8, 1, none⟩) (Nat.le_refl _) _) HG.out)); simp; unfold hold; (try unfold wrap64); omega)
      | (refine bodyPost_ret (v := .agg #[.int .i64 Q, .bool true]) (by simp [results, Try.results71, go_sem, m0, m1]; done) rfl (did_fin ?_ (Below.cast' ((HB.out.setCell (p := ⟨g8, 0, none⟩) (Nat.le_refl _) _).setCell (p := ⟨g8, 1, none⟩) (Nat.le_refl _) _) HG.out)); simp; unfold hold; (try unfold wrap64); omega)
      | (refine bodyPost_ret (v := .agg #[.int .i64 (Q + 1), .bool true]) (by simp [results, Try.results71, go_sem, m0, m1]; done) rfl (did_fin ?_ (Below.cast' ((HB.out.setCell (p := ⟨g8, 0, none⟩) (Nat.le_refl _) _).setCell (p := ⟨g8, 1, none⟩) (Nat.le_refl _) _) HG.out)); simp; unfold hold; (try unfold wrap64); omega)
      | (refine bodyPost_ret (v := .agg #[.int .i64 (wrap64 (-wrap64 Q)), .bool true]) (by simp [results, Try.results71, go_sem, m0, m1]; done) rfl (did_fin ?_ (Below.cast' ((HB.out.setCell (p := ⟨g8, 0, none⟩) (Nat.le_refl _) _).setCell (p := ⟨g8, 1, none⟩) (Nat.le_refl _) _) HG.out)); simp; unfold hold; (try unfold wrap64); omega)
      | (refine bodyPost_ret (v := .agg #[.int .i64 (wrap64 (-wrap64 (Q + 1))), .bool true]) (by simp [results, Try.results71, go_sem, m0, m1]; done) rfl (did_fin ?_ (Below.cast' ((HB.out.setCell (p := ⟨g8, 0, none⟩) (Nat.le_refl _) _).setCell (p := ⟨g8, 1, none⟩) (Nat.le_refl _) _) HG.out)); simp; unfold hold; (try unfold wrap64); omega)
      | (refine bodyPost_ret (v := .agg #[.int .i64 (wrap64 Q), .bool true]) (by simp [results, Try.results71, go_sem, m0, m1]; done) rfl (did_fin ?_ (Below.cast' ((HB.out.setCell (p := ⟨g8, 0, none⟩) (Nat.le_refl _) _).setCell (p := ⟨g8, 1, none⟩) (Nat.le_refl _) _) HG.out)); simp; unfold hold; (try unfold wrap64); omega)
      | (refine bodyPost_ret (v := .agg #[.int .i64 (wrap64 (Q + 1)), .bool true]) (by simp [results, Try.results71, go_sem, m0, m1]; done) rfl (did_fin ?_ (Below.cast' ((HB.out.setCell (p := ⟨g8, 0, none⟩) (Nat.le_refl _) _).setCell (p := ⟨g8, 1, none⟩) (Nat.le_refl _) _) HG.out)); simp; unfold hold; (try unfold wrap64); omega)
 ·go_wp2_with fail
  rw [← hg8, ← hgp]
  clear hg8 hgp
  generalize w3.alloc (.cells #[.int .u64 Q, .bool over, .int .u64 L] 158) = w4 at *
  go_quiet (first | (go_at_call 81; refine Calls.quiet_of_same (H3.out _)) | fail)
  have p0 : (w4.drewN nq).cell? ⟨gp, 0, none⟩ = some (.int .u64 Q) := p0
  have p1 : (w4.drewN nq).cell? ⟨gp, 1, none⟩ = some (.bool over) := p1
  have f0 : (w4.drewN nq).frozen? ⟨g8, 0, none⟩ = false := f0
  have f1 : (w4.drewN nq).frozen? ⟨g8, 1, none⟩ = false := f1
  have m0 : (w4.drewN nq).cell? ⟨g8, 0, none⟩ = some (.int .i64 0) := m0
  have m1 : (w4.drewN nq).cell? ⟨g8, 1, none⟩ = some (.bool false) := m1
  have HB : Aside0 (Below g8 w (w4.drewN nq)) := ⟨HB.out.trans ((pw_below_drewN (Below.refl _ _) nq).mono (by rw [HG.out]; exact HB.out.size))⟩
  generalize w4.drewN nq = w4 at *
  go_wp2_with fail
  go_quiet (fail)
  have p0 : (w4.drewN nq).cell? ⟨gp, 0, none⟩ = some (.int .u64 Q) := p0
  have p1 : (w4.drewN nq).cell? ⟨gp, 1, none⟩ = some (.bool over) := p1
  have f0 : (w4.drewN nq).frozen? ⟨g8, 0, none⟩ = false := f0
  have f1 : (w4.drewN nq).frozen? ⟨g8, 1, none⟩ = false := f1
  have m0 : (w4.drewN nq).cell? ⟨g8, 0, none⟩ = some (.int .i64 0) := m0
  have m1 : (w4.drewN nq).cell? ⟨g8, 1, none⟩ = some (.bool false) := m1
  have HB : Aside0 (Below g8 w (w4.drewN nq)) := ⟨HB.out.trans ((pw_below_drewN (Below.refl _ _) nq).mono (by rw [HG.out]; exact HB.out.size))⟩
  generalize w4.drewN nq = w4 at *
  cases U with
  | false =>
   cases over with
   | false =>
    by_cases hq : Q < 18446744073709551615
    ·have kz : (Q + 1 == 0) = false := beq_eq_false_iff_ne.2 (by omega)
     go_wp2_with fail
     all_goals (have hz := hZ.out; simp at hz)
     all_goals first
      | (refine bodyPost_ret (v := .agg #[.int .i64 (-9223372036854775808), .bool false]) (by simp [results, Try.results71, go_sem, m0, m1]; done) rfl (did_fin ?_ (Below.cast' ((HB.out.setCell (p := ⟨g8, 0, none⟩) (Nat.le_refl _) _).setCell (p := ⟨g8, 1, none⟩) (Nat.le_refl _) _) HG.out)); simp; unfold hold; (try unfold wrap64); omega)
      | (refine bodyPost_ret (v := .agg #[.int .i64 9223372036854775807, .bool false]) (by simp [results, Try.results71, go_sem, m0, m1]; done) rfl (did_fin ?_ (Below.cast' ((HB.out.setCell (p := ⟨g8, 0, none⟩) (Nat.le_refl _) _).setCell (p := ⟨g8, 1, none⟩) (Nat.le_refl _) _) HG.out)); simp; unfold hold; (try unfold wrap64); omega)
      | (refine bodyPost_ret (v := .agg #[.int .i64 Q, .bool true]) (by simp [results, Try.results71, go_sem, m0, m1]; done) rfl (did_fin ?_ (Below.cast' ((HB.out.setCell (p := ⟨g8, 0, none⟩) (Nat.le_refl _) _).setCell (p := ⟨g8, 1, none⟩) (Nat.le_refl _) _) HG.out)); simp; unfold hold; (try unfold wrap64); omega)
      | (refine bodyPost_ret (v := .agg #[.int .i64 (Q + 1), .bool true]) (by simp [results, Try.results71, go_sem, m0, m1]; done) rfl (did_fin ?_ (Below.cast' ((HB.out.setCell (p := ⟨g8, 0, none⟩) (Nat.le_refl _) _).setCell (p := ⟨g8, 1, none⟩) (Nat.le_refl _) _) HG.out)); simp; unfold hold; (try unfold wrap64); omega)
      | (refine bodyPost_ret (v := .agg #[.int .i64 (wrap64 (-wrap64 Q)), .bool true]) (by simp [results, Try.results71, go_sem, m0, m1]; done) rfl (did_fin ?_ (Below.cast' ((HB.out.setCell (p := ⟨g8, 0, none⟩) (Nat.le_refl _) _).setCell (p := ⟨g8, 1, none⟩) (Nat.le_refl _) _) HG.out)); simp; unfold hold; (try unfold wrap64); omega)
      | (refine bodyPost_ret (v := .agg #[.int .i64 (wrap64 (-wrap64 (Q + 1))), .bool true]) (by simp [results, Try.results71, go_sem, m0, m1]; done) rfl (did_fin ?_ (Below.cast' ((HB.out.setCell (p := ⟨g8, 0, none⟩) (Nat.le_refl _) _).setCell (p := ⟨g8, 1, none⟩) (Nat.le_refl _) _) HG.out)); simp; unfold hold; (try unfold wrap64); omega)
      | (refine bodyPost_ret (v := .agg #[.int .i64 (wrap64 Q), .bool true]) (by simp [results, Try.results71, go_sem, m0, m1]; done) rfl (did_fin ?_ (Below.cast' ((HB.out.setCell (p := ⟨g8, 0, none⟩) (Nat.le_refl _) _).setCell (p := ⟨g8, 1, none⟩) (Nat.le_refl _) _) HG.out)); simp; unfold hold; (try unfold wrap64); omega)
      | (refine bodyPost_ret (v := .agg #[.int .i64 (wrap64 (Q + 1)), .bool true]) (by simp [results, Try.results71, go_sem, m0, m1]; done) rfl (did_fin ?_ (Below.cast' ((HB.out.setCell (p := ⟨g8, 0, none⟩) (Nat.le_refl _) _).setCell (p := ⟨g8, 1, none⟩) (Nat.le_refl _) _) HG.out)); simp; unfold hold; (try unfold wrap64); omega)
    ·have hq2 : Q = 18446744073709551615 := by omega
     subst hq2
     go_wp2_with fail
     all_goals (have hz := hZ.out; simp at hz)
     all_goals first
      | (refine bodyPost_ret (v := .agg #[.int .i64 (-9223372036854775808), .bool false]) (by simp [results, Try.results71, go_sem, m0, m1]; done) rfl (did_fin ?_ (Below.cast' ((HB.out.setCell (p := ⟨g8, 0, none⟩) (Nat.le_refl _) _).setCell (p := ⟨g8, 1, none⟩) (Nat.le_refl _) _) HG.out)); simp; unfold hold; (try unfold wrap64); omega)
      | (refine bodyPost_ret (v := .agg #[.int .i64 9223372036854775807, .bool false]) (by simp [results, Try.results71, go_sem, m0, m1]; done) rfl (did_fin ?_ (Below.cast' ((HB.out.setCell (p := ⟨g8, 0, none⟩) (Nat.le_refl _) _).setCell (p := ⟨g8, 1, none⟩) (Nat.le_refl _) _) HG.out)); simp; unfold hold; (try unfold wrap64); omega)
      | (refine bodyPost_ret (v := .agg #[.int .i64 Q, .bool true]) (by simp [results, Try.results71, go_sem, m0, m1]; done) rfl (did_fin ?_ (Below.cast' ((HB.out.setCell (p := ⟨g8, 0, none⟩) (Nat.le_refl _) _).setCell (p := ⟨g8, 1, none⟩) (Nat.le_refl _) _) HG.out)); simp; unfold hold; (try unfold wrap64); omega)
      | (refine bodyPost_ret (v := .agg #[.int .i64 (Q + 1), .bool true]) (by simp [results, Try.results71, go_sem, m0, m1]; done) rfl (did_fin ?_ (Below.cast' ((HB.out.setCell (p := ⟨g8, 0, none⟩) (Nat.le_refl _) _).setCell (p := ⟨g8, 1, none⟩) (Nat.le_refl _) _) HG.out)); simp; unfold hold; (try unfold wrap64); omega)
      | (refine bodyPost_ret (v := .agg #[.int .i64 (wrap64 (-wrap64 Q)), .bool true]) (by simp [results, Try.results71, go_sem, m0, m1]; done) rfl (did_fin ?_ (Below.cast' ((HB.out.setCell (p := ⟨g8, 0, none⟩) (Nat.le_refl _) _).setCell (p := ⟨g8, 1, none⟩) (Nat.le_refl _) _) HG.out)); simp; unfold hold; (try unfold wrap64); omega)
      | (refine bodyPost_ret (v := .agg #[.int .i64 (wrap64 (-wrap64 (Q + 1))), .bool true]) (by simp [results, Try.results71, go_sem, m0, m1]; done) rfl (did_fin ?_ (Below.cast' ((HB.out.setCell (p := ⟨g8, 0, none⟩) (Nat.le_refl _) _).setCell (p := ⟨g8, 1, none⟩) (Nat.le_refl _) _) HG.out)); simp; unfold hold; (try unfold wrap64); omega)
      | (refine bodyPost_ret (v := .agg #[.int .i64 (wrap64 Q), .bool true]) (by simp [results, Try.results71, go_sem, m0, m1]; done) rfl (did_fin ?_ (Below.cast' ((HB.out.setCell (p := ⟨g8, 0, none⟩) (Nat.le_refl _) _).setCell (p := ⟨g8, 1, none⟩) (Nat.le_refl _) _) HG.out)); simp; unfold hold; (try unfold wrap64); omega)
      | (refine bodyPost_ret (v := .agg #[.int .i64 (wrap64 (Q + 1)), .bool true]) (by simp [results, Try.results71, go_sem, m0, m1]; done) rfl (did_fin ?_ (Below.cast' ((HB.out.setCell (p := ⟨g8, 0, none⟩) (Nat.le_refl _) _).setCell (p := ⟨g8, 1, none⟩) (Nat.le_refl _) _) HG.out)); simp; unfold hold; (try unfold wrap64); omega)
   | true =>
    by_cases hq : Q < 18446744073709551615
    ·have kz : (Q + 1 == 0) = false := beq_eq_false_iff_ne.2 (by omega)
     go_wp2_with fail
     all_goals (have hz := hZ.out; simp at hz)
     all_goals first
      | (refine bodyPost_ret (v := .agg #[.int .i64 (-9223372036854775808), .bool false]) (by simp [results, Try.results71, go_sem, m0, m1]; done) rfl (did_fin ?_ (Below.cast' ((HB.out.setCell (p := ⟨g8, 0, none⟩) (Nat.le_refl _) _).setCell (p := ⟨g8, 1, none⟩) (Nat.le_refl _) _) HG.out)); simp; unfold hold; (try unfold wrap64); omega)
      | (refine bodyPost_ret (v := .agg #[.int .i64 9223372036854775807, .bool false]) (by simp [results, Try.results71, go_sem, m0, m1]; done) rfl (did_fin ?_ (Below.cast' ((HB.out.setCell (p := ⟨g8, 0, none⟩) (Nat.le_refl _) _).setCell (p := ⟨g8, 1, none⟩) (Nat.le_refl _) _) HG.out)); simp; unfold hold; (try unfold wrap64); omega)
      | (refine bodyPost_ret (v := .agg #[.int .i64 Q, .bool true]) (by simp [results, Try.results71, go_sem, m0, m1]; done) rfl (did_fin ?_ (Below.cast' ((HB.out.setCell (p := ⟨g8, 0, none⟩) (Nat.le_refl _) _).setCell (p := ⟨g8, 1, none⟩) (Nat.le_refl _) _) HG.out)); simp; unfold hold; (try unfold wrap64); omega)
      | (refine bodyPost_ret (v := .agg #[.int .i64 (Q + 1), .bool true]) (by simp [results, Try.results71, go_sem, m0, m1]; done) rfl (did_fin ?_ (Below.cast' ((HB.out.setCell (p := ⟨g8, 0, none⟩) (Nat.le_refl _) _).setCell (p := ⟨g8, 1, none⟩) (Nat.le_refl _) _) HG.out)); simp; unfold hold; (try unfold wrap64); omega)
      | (refine bodyPost_ret (v := .agg #[.int .i64 (wrap64 (-wrap64 Q)), .bool true]) (by simp [results, Try.results71, go_sem, m0, m1]; done) rfl (did_fin ?_ (Below.cast' ((HB.out.setCell (p := ⟨g8, 0, none⟩) (Nat.le_refl _) _).setCell (p := ⟨g8, 1, none⟩) (Nat.le_refl _) _) HG.out)); simp; unfold hold; (try unfold wrap64); omega)
      | (refine bodyPost_ret (v := .agg #[.int .i64 (wrap64 (-wrap64 (Q + 1))), .bool true]) (by simp [results, Try.results71, go_sem, m0, m1]; done) rfl (did_fin ?_ (Below.cast' ((HB.out.setCell (p := ⟨g8, 0, none⟩) (Nat.le_refl _) _).setCell (p := ⟨g8, 1, none⟩) (Nat.le_refl _) _) HG.out)); simp; unfold hold; (try unfold wrap64); omega)
      | (refine bodyPost_ret (v := .agg #[.int .i64 (wrap64 Q), .bool true]) (by simp [results, Try.results71, go_sem, m0, m1]; done) rfl (did_fin ?_ (Below.cast' ((HB.out.setCell (p := ⟨g8, 0, none⟩) (Nat.le_refl _) _).setCell (p := ⟨g8, 1, none⟩) (Nat.le_refl _) _) HG.out)); simp; unfold hold; (try unfold wrap64); omega)
      | (refine bodyPost_ret (v := .agg #[.int .i64 (wrap64 (Q + 1)), .bool true]) (by simp [results, Try.results71, go_sem, m0, m1]; done) rfl (did_fin ?_ (Below.cast' ((HB.out.setCell (p := ⟨g8, 0, none⟩) (Nat.le_refl _) _).setCell (p := ⟨g8, 1, none⟩) (Nat.le_refl _) _) HG.out)); simp; unfold hold; (try unfold wrap64); omega)
    ·have hq2 : Q = 18446744073709551615 := by omega
     subst hq2
     go_wp2_with fail
     all_goals (have hz := hZ.out; simp at hz)
     all_goals first
      | (refine bodyPost_ret (v := .agg #[.int .i64 (-9223372036854775808), .bool false]) (by simp [results, Try.results71, go_sem, m0, m1]; done) rfl (did_fin ?_ (Below.cast' ((HB.out.setCell (p := ⟨g8, 0, none⟩) (Nat.le_refl _) _).setCell (p := ⟨g8, 1, none⟩) (Nat.le_refl _) _) HG.out)); simp; unfold hold; (try unfold wrap64); omega)
      | (refine bodyPost_ret (v := .agg #[.int .i64 9223372036854775807, .bool false]) (by simp [results, Try.results71, go_sem, m0, m1]; done) rfl (did_fin ?_ (Below.cast' ((HB.out.setCell (p := ⟨g8, 0, none⟩) (Nat.le_refl _) _).setCell (p := ⟨g8, 1, none⟩) (Nat.le_refl _) _) HG.out)); simp; unfold hold; (try unfold wrap64); omega)
      | (refine bodyPost_ret (v := .agg #[.int .i64 Q, .bool true]) (by simp [results, Try.results71, go_sem, m0, m1]; done) rfl (did_fin ?_ (Below.cast' ((HB.out.setCell (p := ⟨g8, 0, none⟩) (Nat.le_refl _) _).setCell (p := ⟨g8, 1, none⟩) (Nat.le_refl _) _) HG.out)); simp; unfold hold; (try unfold wrap64); omega)
      | (refine bodyPost_ret (v := .agg #[.int .i64 (Q + 1), .bool true]) (by simp [results, Try.results71, go_sem, m0, m1]; done) rfl (did_fin ?_ (Below.cast' ((HB.out.setCell (p := ⟨g8, 0, none⟩) (Nat.le_refl _) _).setCell (p := ⟨g8, 1, none⟩) (Nat.le_refl _) _) HG.out)); simp; unfold hold; (try unfold wrap64); omega)
      | (refine bodyPost_ret (v := .agg #[.int .i64 (wrap64 (-wrap64 Q)), .bool true]) (by simp [results, Try.results71, go_sem, m0, m1]; done) rfl (did_fin ?_ (Below.cast' ((HB.out.setCell (p := ⟨g8, 0, none⟩) (Nat.le_refl _) _).setCell (p := ⟨g8, 1, none⟩) (Nat.le_refl _) _) HG.out)); simp; unfold hold; (try unfold wrap64); omega)
      | (refine bodyPost_ret (v := .agg #[.int .i64 (wrap64 (-wrap64 (Q + 1))), .bool true]) (by simp [results, Try.results71, go_sem, m0, m1]; done) rfl (did_fin ?_ (Below.cast' ((HB.out.setCell (p := ⟨g8, 0, none⟩) (Nat.le_refl _) _).setCell (p := ⟨g8, 1, none⟩) (Nat.le_refl _) _) HG.out)); simp; unfold hold; (try unfold wrap64); omega)
      | (refine bodyPost_ret (v := .agg #[.int .i64 (wrap64 Q), .bool true]) (by simp [results, Try.results71, go_sem, m0, m1]; done) rfl (did_fin ?_ (Below.cast' ((HB.out.setCell (p := ⟨g8, 0, none⟩) (Nat.le_refl _) _).setCell (p := ⟨g8, 1, none⟩) (Nat.le_refl _) _) HG.out)); simp; unfold hold; (try unfold wrap64); omega)
      | (refine bodyPost_ret (v := .agg #[.int .i64 (wrap64 (Q + 1)), .bool true]) (by simp [results, Try.results71, go_sem, m0, m1]; done) rfl (did_fin ?_ (Below.cast' ((HB.out.setCell (p := ⟨g8, 0, none⟩) (Nat.le_refl _) _).setCell (p := ⟨g8, 1, none⟩) (Nat.le_refl _) _) HG.out)); simp; unfold hold; (try unfold wrap64); omega)
  | true =>
   cases over with
   | false =>
    by_cases hq : Q < 18446744073709551615
    ·have kz : (Q + 1 == 0) = false := beq_eq_false_iff_ne.2 (by omega)
     go_wp2_with fail
     all_goals (have hz := hZ.out; simp at hz)
     all_goals first
      | (refine bodyPost_ret (v := .agg #[.int .i64 (-9223372036854775808), .bool false]) (by simp [results, Try.results71, go_sem, m0, m1]; done) rfl (did_fin ?_ (Below.cast' ((HB.out.setCell (p := ⟨g8, 0, none⟩) (Nat.le_refl _) _).setCell (p := ⟨g8, 1, none⟩) (Nat.le_refl _) _) HG.out)); simp; unfold hold; (try unfold wrap64); omega)
      | (refine bodyPost_ret (v := .agg #[.int .i64 9223372036854775807, .bool false]) (by simp [results, Try.results71, go_sem, m0, m1]; done) rfl (did_fin ?_ (Below.cast' ((HB.out.setCell (p := ⟨g8, 0, none⟩) (Nat.le_refl _) _).setCell (p := ⟨g8, 1, none⟩) (Nat.le_refl _) _) HG.out)); simp; unfold hold; (try unfold wrap64); omega)
      | (refine bodyPost_ret (v := .agg #[.int .i64 Q, .bool true]) (by simp [results, Try.results71, go_sem, m0, m1]; done) rfl (did_fin ?_ (Below.cast' ((HB.out.setCell (p := ⟨g8, 0, none⟩) (Nat.le_refl _) _).setCell (p := ⟨g8, 1, none⟩) (Nat.le_refl _) _) HG.out)); simp; unfold hold; (try unfold wrap64); omega)
      | (refine bodyPost_ret (v := .agg #[.int .i64 (Q + 1), .bool true]) (by simp [results, Try.results71, go_sem, m0, m1]; done) rfl (did_fin ?_ (Below.cast' ((HB.out.setCell (p := ⟨g8, 0, none⟩) (Nat.le_refl _) _).setCell (p := ⟨g8, 1, none⟩) (Nat.le_refl _) _) HG.out)); simp; unfold hold; (try unfold wrap64); omega)
      | (refine bodyPost_ret (v := .agg #[.int .i64 (wrap64 (-wrap64 Q)), .bool true]) (by simp [results, Try.results71, go_sem, m0, m1]; done) rfl (did_fin ?_ (Below.cast' ((HB.out.setCell (p := ⟨g8, 0, none⟩) (Nat.le_refl _) _).setCell (p := ⟨g8, 1, none⟩) (Nat.le_refl _) _) HG.out)); simp; unfold hold; (try unfold wrap64); omega)
      | (refine bodyPost_ret (v := .agg #[.int .i64 (wrap64 (-wrap64 (Q + 1))), .bool true]) (by simp [results, Try.results71, go_sem, m0, m1]; done) rfl (did_fin ?_ (Below.cast' ((HB.out.setCell (p := ⟨g8, 0, none⟩) (Nat.le_refl _) _).setCell (p := ⟨g8, 1, none⟩) (Nat.le_refl _) _) HG.out)); simp; unfold hold; (try unfold wrap64); omega)
      | (refine bodyPost_ret (v := .agg #[.int .i64 (wrap64 Q), .bool true]) (by simp [results, Try.results71, go_sem, m0, m1]; done) rfl (did_fin ?_ (Below.cast' ((HB.out.setCell (p := ⟨g8, 0, none⟩) (Nat.le_refl _) _).setCell (p := ⟨g8, 1, none⟩) (Nat.le_refl _) _) HG.out)); simp; unfold hold; (try unfold wrap64); omega)
      | (refine bodyPost_ret (v := .agg #[.int .i64 (wrap64 (Q + 1)), .bool true]) (by simp [results, Try.results71, go_sem, m0, m1]; done) rfl (did_fin ?_ (Below.cast' ((HB.out.setCell (p := ⟨g8, 0, none⟩) (Nat.le_refl _) _).setCell (p := ⟨g8, 1, none⟩) (Nat.le_refl _) _) HG.out)); simp; unfold hold; (try unfold wrap64); omega)
    ·have hq2 : Q = 18446744073709551615 := by omega
     subst hq2
     go_wp2_with fail
     all_goals (have hz := hZ.out; simp at hz)
     all_goals first
      | (refine bodyPost_ret (v := .agg #[.int .i64 (-9223372036854775808), .bool false]) (by simp [results, Try.results71, go_sem, m0, m1]; done) rfl (did_fin ?_ (Below.cast' ((HB.out.setCell (p := ⟨g8, 0, none⟩) (Nat.le_refl _) _).setCell (p := ⟨g8, 1, none⟩) (Nat.le_refl _) _) HG.out)); simp; unfold hold; (try unfold wrap64); omega)
      | (refine bodyPost_ret (v := .agg #[.int .i64 9223372036854775807, .bool false]) (by simp [results, Try.results71, go_sem, m0, m1]; done) rfl (did_fin ?_ (Below.cast' ((HB.out.setCell (p := ⟨g8, 0, none⟩) (Nat.le_refl _) _).setCell (p := ⟨g8, 1, none⟩) (Nat.le_refl _) _) HG.out)); simp; unfold hold; (try unfold wrap64); omega)
      | (refine bodyPost_ret (v := .agg #[.int .i64 Q, .bool true]) (by simp [results, Try.results71, go_sem, m0, m1]; done) rfl (did_fin ?_ (Below.cast' ((HB.out.setCell (p := ⟨g8, 0, none⟩) (Nat.le_refl _) _).setCell (p := ⟨g8, 1, none⟩) (Nat.le_refl _) _) HG.out)); simp; unfold hold; (try unfold wrap64); omega)
      | (refine bodyPost_ret (v := .agg #[.int .i64 (Q + 1), .bool true]) (by simp [results, Try.results71, go_sem, m0, m1]; done) rfl (did_fin ?_ (Below.cast' ((HB.out.setCell (p := ⟨g8, 0, none⟩) (Nat.le_refl _) _).setCell (p := ⟨g8, 1, none⟩) (Nat.le_refl _) _) HG.out)); simp; unfold hold; (try unfold wrap64); omega)
      | (refine bodyPost_ret (v := .agg #[.int .i64 (wrap64 (-wrap64 Q)), .bool true]) (by simp [results, Try.results71, go_sem, m0, m1]; done) rfl (did_fin ?_ (Below.cast' ((HB.out.setCell (p := ⟨g8, 0, none⟩) (Nat.le_refl _) _).setCell (p := ⟨g8, 1, none⟩) (Nat.le_refl _) _) HG.out)); simp; unfold hold; (try unfold wrap64); omega)
      | (refine bodyPost_ret (v := .agg #[.int .i64 (wrap64 (-wrap64 (Q + 1))), .bool true]) (by simp [results, Try.results71, go_sem, m0, m1]; done) rfl (did_fin ?_ (Below.cast' ((HB.out.setCell (p := ⟨g8, 0, none⟩) (Nat.le_refl _) _).setCell (p := ⟨g8, 1, none⟩) (Nat.le_refl _) _) HG.out)); simp; unfold hold; (try unfold wrap64); omega)
      | (refine bodyPost_ret (v := .agg #[.int .i64 (wrap64 Q), .bool true]) (by simp [results, Try.results71, go_sem, m0, m1]; done) rfl (did_fin ?_ (Below.cast' ((HB.out.setCell (p := ⟨g8, 0, none⟩) (Nat.le_refl _) _).setCell (p := ⟨g8, 1, none⟩) (Nat.le_refl _) _) HG.out)); simp; unfold hold; (try unfold wrap64); omega)
      | (refine bodyPost_ret (v := .agg #[.int .i64 (wrap64 (Q + 1)), .bool true]) (by simp [results, Try.results71, go_sem, m0, m1]; done) rfl (did_fin ?_ (Below.cast' ((HB.out.setCell (p := ⟨g8, 0, none⟩) (Nat.le_refl _) _).setCell (p := ⟨g8, 1, none⟩) (Nat.le_refl _) _) HG.out)); simp; unfold hold; (try unfold wrap64); omega)
   | true =>
    by_cases hq : Q < 18446744073709551615
    ·have kz : (Q + 1 == 0) = false := beq_eq_false_iff_ne.2 (by omega)
     go_wp2_with fail
     all_goals (have hz := hZ.out; simp at hz)
     all_goals first
      | (refine bodyPost_ret (v := .agg #[.int .i64 (-9223372036854775808), .bool false]) (by simp [results, Try.results71, go_sem, m0, m1]; done) rfl (did_fin ?_ (Below.cast' ((HB.out.setCell (p := ⟨g8, 0, none⟩) (Nat.le_refl _) _).setCell (p := ⟨g8, 1, none⟩) (Nat.le_refl _) _) HG.out)); simp; unfold hold; (try unfold wrap64); omega)
      | (refine bodyPost_ret (v := .agg #[.int .i64 9223372036854775807, .bool false]) (by simp [results, Try.results71, go_sem, m0, m1]; done) rfl (did_fin ?_ (Below.cast' ((HB.out.setCell (p := ⟨g8, 0, none⟩) (Nat.le_refl _) _).setCell (p := ⟨g8, 1, none⟩) (Nat.le_refl _) _) HG.out)); simp; unfold hold; (try unfold wrap64); omega)
      | (refine bodyPost_ret (v := .agg #[.int .i64 Q, .bool true]) (by simp [results, Try.results71, go_sem, m0, m1]; done) rfl (did_fin ?_ (Below.cast' ((HB.out.setCell (p := ⟨g8, 0, none⟩) (Nat.le_refl _) _).setCell (p := ⟨g8, 1, none⟩) (Nat.le_refl _) _) HG.out)); simp; unfold hold; (try unfold wrap64); omega)
      | (refine bodyPost_ret (v := .agg #[.int .i64 (Q + 1), .bool true]) (by simp [results, Try.results71, go_sem, m0, m1]; done) rfl (did_fin ?_ (Below.cast' ((HB.out.setCell (p := ⟨g8, 0, none⟩) (Nat.le_refl _) _).setCell (p := ⟨g8, 1, none⟩) (Nat.le_refl _) _) HG.out)); simp; unfold hold; (try unfold wrap64); omega)
      | (refine bodyPost_ret (v := .agg #[.int .i64 (wrap64 (-wrap64 Q)), .bool true]) (by simp [results, Try.results71, go_sem, m0, m1]; done) rfl (did_fin ?_ (Below.cast' ((HB.out.setCell (p := ⟨g8, 0, none⟩) (Nat.le_refl _) _).setCell (p := ⟨g8, 1, none⟩) (Nat.le_refl _) _) HG.out)); simp; unfold hold; (try unfold wrap64); omega)
      | (refine bodyPost_ret (v := .agg #[.int .i64 (wrap64 (-wrap64 (Q + 1))), .bool true]) (by simp [results, Try.results71, go_sem, m0, m1]; done) rfl (did_fin ?_ (Below.cast' ((HB.out.setCell (p := ⟨g8, 0, none⟩) (Nat.le_refl _) _).setCell (p := ⟨g8, 1, none⟩) (Nat.le_refl _) _) HG.out)); simp; unfold hold; (try unfold wrap64); omega)
      | (refine bodyPost_ret (v := .agg #[.int .i64 (wrap64 Q), .bool true]) (by simp [results, Try.results71, go_sem, m0, m1]; done) rfl (did_fin ?_ (Below.cast' ((HB.out.setCell (p := ⟨g8, 0, none⟩) (Nat.le_refl _) _).setCell (p := ⟨g8, 1, none⟩) (Nat.le_refl _) _) HG.out)); simp; unfold hold; (try unfold wrap64); omega)
      | (refine bodyPost_ret (v := .agg #[.int .i64 (wrap64 (Q + 1)), .bool true]) (by simp [results, Try.results71, go_sem, m0, m1]; done) rfl (did_fin ?_ (Below.cast' ((HB.out.setCell (p := ⟨g8, 0, none⟩) (Nat.le_refl _) _).setCell (p := ⟨g8, 1, none⟩) (Nat.le_refl _) _) HG.out)); simp; unfold hold; (try unfold wrap64); omega)
    ·have hq2 : Q = 18446744073709551615 := by omega
     subst hq2
     go_wp2_with fail
     all_goals (have hz := hZ.out; simp at hz)
     all_goals first
      | (refine bodyPost_ret (v := .agg #[.int .i64 (-9223372036854775808), .bool false]) (by simp [results, Try.results71, go_sem, m0, m1]; done) rfl (did_fin ?_ (Below.cast' ((HB.out.setCell (p := ⟨g8, 0, none⟩) (Nat.le_refl _) _).setCell (p := ⟨g8, 1, none⟩) (Nat.le_refl _) _) HG.out)); simp; unfold hold; (try unfold wrap64); omega)
      | (refine bodyPost_ret (v := .agg #[.int .i64 9223372036854775807, .bool false]) (by simp [results, Try.results71, go_sem, m0, m1]; done) rfl (did_fin ?_ (Below.cast' ((HB.out.setCell (p := ⟨g8, 0, none⟩) (Nat.le_refl _) _).setCell (p := ⟨g8, 1, none⟩) (Nat.le_refl _) _) HG.out)); simp; unfold hold; (try unfold wrap64); omega)
      | (refine bodyPost_ret (v := .agg #[.int .i64 Q, .bool true]) (by simp [results, Try.results71, go_sem, m0, m1]; done) rfl (did_fin ?_ (Below.cast' ((HB.out.setCell (p := ⟨g8, 0, none⟩) (Nat.le_refl _) _).setCell (p := ⟨g8, 1, none⟩) (Nat.le_refl _) _) HG.out)); simp; unfold hold; (try unfold wrap64); omega)
      | (refine bodyPost_ret (v := .agg #[.int .i64 (Q + 1), .bool true]) (by simp [results, Try.results71, go_sem, m0, m1]; done) rfl (did_fin ?_ (Below.cast' ((HB.out.setCell (p := ⟨g8, 0, none⟩) (Nat.le_refl _) _).setCell (p := ⟨g8, 1, none⟩) (Nat.le_refl _) _) HG.out)); simp; unfold hold; (try unfold wrap64); omega)
      | (refine bodyPost_ret (v := .agg #[.int .i64 (wrap64 (-wrap64 Q)), .bool true]) (by simp [results, Try.results71, go_sem, m0, m1]; done) rfl (did_fin ?_ (Below.cast' ((HB.out.setCell (p := ⟨g8, 0, none⟩) (Nat.le_refl _) _).setCell (p := ⟨g8, 1, none⟩) (Nat.le_refl _) _) HG.out)); simp; unfold hold; (try unfold wrap64); omega)
      | (refine bodyPost_ret (v := .agg #[.int .i64 (wrap64 (-wrap64 (Q + 1))), .bool true]) (by simp [results, Try.results71, go_sem, m0, m1]; done) rfl (did_fin ?_ (Below.cast' ((HB.out.setCell (p := ⟨g8, 0, none⟩) (Nat.le_refl _) _).setCell (p := ⟨g8, 1, none⟩) (Nat.le_refl _) _) HG.out)); simp; unfold hold; (try unfold wrap64); omega)
      | (refine bodyPost_ret (v := .agg #[.int .i64 (wrap64 Q), .bool true]) (by simp [results, Try.results71, go_sem, m0, m1]; done) rfl (did_fin ?_ (Below.cast' ((HB.out.setCell (p := ⟨g8, 0, none⟩) (Nat.le_refl _) _).setCell (p := ⟨g8, 1, none⟩) (Nat.le_refl _) _) HG.out)); simp; unfold hold; (try unfold wrap64); omega)
      | (refine bodyPost_ret (v := .agg #[.int .i64 (wrap64 (Q + 1)), .bool true]) (by simp [results, Try.results71, go_sem, m0, m1]; done) rfl (did_fin ?_ (Below.cast' ((HB.out.setCell (p := ⟨g8, 0, none⟩) (Nat.le_refl _) _).setCell (p := ⟨g8, 1, none⟩) (Nat.le_refl _) _) HG.out)); simp; unfold hold; (try unfold wrap64); omega)
end Go.Proofs.Ytgakmnholegbgaa.B
end
section
namespace Go.Proofs.Ytgakmnholegbgaa.B
open Go.RowKit Go.Proofs.YtgakmnholegbgaaW.PrintWords Go.Proofs.YtgakmnholegbgaaW.PrintLast Go.Proofs.YtgakmnholegbgaaW.PrintMore
set_option linter.unusedVariables false
set_option linter.unusedSimpArgs false
theorem up_cases (L C : Nat) (below : Bool) (how : Int) (h0 : 1 ≤ how) (h1 : how ≤ 3) (hL : L < C) (hC : C ≤ 9223372036854775808) :
  (((L : Int) == 0) = true ∧ upB L C below how = false) ∨ (((L : Int) == 0) = false ∧ (how == 1) = true ∧ upB L C below how = below) ∨ (((L : Int) == 0) = false ∧ (how == 1) = false ∧ (how == 3) = true ∧ upB L C below how = !below) ∨ (((L : Int) == 0) = false ∧ (how == 1) = false ∧ (how == 3) = false ∧ below = true ∧ decide (IntKind.u64.wrap ((C : Int) - (L : Int)) < (L : Int)) = upB L C below how) ∨ (((L : Int) == 0) = false ∧ (how == 1) = false ∧ (how == 3) = false ∧ below = false ∧ decide (IntKind.u64.wrap ((C : Int) - (L : Int)) ≤ (L : Int)) = upB L C below how) := by
 have hw : IntKind.u64.wrap ((C : Int) - (L : Int)) = ((C - L : Nat) : Int) := by
  rw [IntKind.wrap_u64]
  omega
 rw [hw]
 by_cases hz : L = 0
 ·left
  subst hz
  refine ⟨rfl, ?_⟩
  unfold upB
  split
  ·simp
  ·split
   ·simp
   ·split <;> simp
 ·have hp : 0 < L := by omega
  have hz2 : ((L : Int) == 0) = false := beq_eq_false_iff_ne.2 (by omega)
  right
  by_cases e1 : how = 1
  ·left
   subst e1
   refine ⟨hz2, rfl, ?_⟩
   simp [upB, hp]
  ·right
   have e1' : (how == 1) = false := beq_eq_false_iff_ne.2 e1
   by_cases e3 : how = 3
   ·left
    subst e3
    refine ⟨hz2, rfl, rfl, ?_⟩
    simp [upB, hp]
   ·right
    have e3' : (how == 3) = false := beq_eq_false_iff_ne.2 e3
    cases below with
    | true =>
     left
     refine ⟨hz2, e1', e3', rfl, ?_⟩
     unfold upB
     rw [if_neg e1, if_neg e3, if_pos rfl]
     exact decide_eq_decide.2 (by omega)
    | false =>
     right
     refine ⟨hz2, e1', e3', rfl, ?_⟩
     unfold upB
     rw [if_neg e1, if_neg e3, if_neg (by decide), decide_eq_true hp, Bool.true_and]
     exact decide_eq_decide.2 (by omega)
theorem did_any (a b c how : Int) (ha : I64 a) (hb : I64 b) (hc : I64 c) (hc0 : c ≠ 0) (h0 : 1 ≤ how) (h1 : how ≤ 3) (w : World) : Calls Try.prog 71 #[.int .i64 a, .int .i64 b, .int .i64 c, .int .i64 how] w (DidIs (signB a b c) (quoN a b c how : Int) w) := by
 have na := natAbs_le ha
 have nb := natAbs_le hb
 have nc := natAbs_le hc
 have nc0 : 0 < c.natAbs := by omega
 have hN : a.natAbs * b.natAbs ≤ 9223372036854775808 * 9223372036854775808 := Nat.mul_le_mul na nb
 have ht := fun w => times_walk a.natAbs b.natAbs (by omega) (by omega) w
 have e : a.natAbs * b.natAbs / 18446744073709551616 * 18446744073709551616 + a.natAbs * b.natAbs % 18446744073709551616 = a.natAbs * b.natAbs := by omega
 have hp := fun w => part_walk (a.natAbs * b.natAbs / 18446744073709551616) (a.natAbs * b.natAbs % 18446744073709551616) c.natAbs (by omega) (by omega) nc0 nc w
 rw [e] at hp
 have hL := Nat.mod_lt (a.natAbs * b.natAbs) nc0
 refine did_walk a b c how _ _ _ _ _ _ _ _ _ (signB a b c) (upB (a.natAbs * b.natAbs % c.natAbs) c.natAbs (signB a b c) how) w (beq_eq_false_iff_ne.2 hc0) (decide_eq_false (by omega)) (decide_eq_false (by omega)) rfl ?_ ?_ ⟨?_, ?_⟩ (up_cases _ _ _ how h0 h1 hL nc) ⟨fun w => rsize_any a ha w⟩ ⟨fun w => rsize_any b hb w⟩ ⟨fun w => rsize_any c hc w⟩ ⟨ht⟩ ⟨hp⟩
 ·omega
 ·omega
 ·intro ho
  have := of_decide_eq_true ho
  unfold quoN
  omega
 ·intro ho
  have := of_decide_eq_false ho
  unfold quoN
  generalize a.natAbs * b.natAbs / c.natAbs = Q at *
  generalize upB (a.natAbs * b.natAbs % c.natAbs) c.natAbs (signB a b c) how = U
  cases U
  ·simp
   omega
  ·simp
   omega
set_option maxHeartbeats 1000000 in
theorem did_none (a b c how : Int) (h : c = 0 ∨ how < 1 ∨ 3 < how) (w : World) : Calls Try.prog 71 #[.int .i64 a, .int .i64 b, .int .i64 c, .int .i64 how] w fun e w' => e = .returned (.agg #[.int .i64 0, .bool false]) ∧ Below w.heap.size w w' := by
 by_cases hc : c = 0
 ·have k1 : (c == 0) = true := by simp [hc]
  go_enter Try.func71, Try.ntmps71
  go_wp2_with fail
  refine bodyPost_ret (v := .agg #[.int .i64 0, .bool false]) (by simp [results, Try.results71, go_sem]) rfl ⟨rfl, ?_⟩
  repeat (first | exact Below.refl _ _ | refine Below.setCell ?_ (by simp) _ | refine Below.alloc ?_ (by simp) _)
 ·have k1 : (c == 0) = false := beq_eq_false_iff_ne.2 hc
  by_cases h1 : how < 1
  ·have k2 : decide (how < 1) = true := decide_eq_true h1
   go_enter Try.func71, Try.ntmps71
   go_wp2_with fail
   refine bodyPost_ret (v := .agg #[.int .i64 0, .bool false]) (by simp [results, Try.results71, go_sem]) rfl ⟨rfl, ?_⟩
   repeat (first | exact Below.refl _ _ | refine Below.setCell ?_ (by simp) _ | refine Below.alloc ?_ (by simp) _)
  ·have k2 : decide (how < 1) = false := decide_eq_false h1
   have k3 : decide (3 < how) = true := decide_eq_true (by omega)
   go_enter Try.func71, Try.ntmps71
   go_wp2_with fail
   refine bodyPost_ret (v := .agg #[.int .i64 0, .bool false]) (by simp [results, Try.results71, go_sem]) rfl ⟨rfl, ?_⟩
   repeat (first | exact Below.refl _ _ | refine Below.setCell ?_ (by simp) _ | refine Below.alloc ?_ (by simp) _)
theorem did_mdo (a b c how : Int) (ha : I64 a) (hb : I64 b) (hc : I64 c) (w : World) : Calls Try.prog 71 #[.int .i64 a, .int .i64 b, .int .i64 c, .int .i64 how] w fun e w' => (∃ ok : Bool, e = .returned (.agg #[.int .i64 (mdo a b c how), .bool ok])) ∧ Below w.heap.size w w' := by
 by_cases h : c = 0 ∨ how < 1 ∨ 3 < how
 ·unfold mdo
  rw [if_pos h]
  refine (did_none a b c how h w).mono ?_
  rintro e w' ⟨he, hB⟩
  exact ⟨⟨false, he⟩, hB⟩
 ·unfold mdo
  rw [if_neg h]
  exact did_any a b c how ha hb hc (by omega) (by omega) (by omega) w
theorem rdo_any (a b c how : Int) (ha : I64 a) (hb : I64 b) (hc : I64 c) (_ : I64 how) (w : World) : Calls Try.prog 51 #[.int .i64 a, .int .i64 b, .int .i64 c, .int .i64 how] w fun e w' => e = .returned (.int .i64 (mdo a b c how)) ∧ Below w.heap.size w w' := by
 have C := Aside0.mk (fun w => did_mdo a b c how ha hb hc w)
 clear ha hb hc
 generalize mdo a b c how = V at *
 have hfd : ∀ (ok : Bool) (w : World), (Instr.field 142 (.agg #[.int .i64 V, .bool ok]) 0).run Try.prog w = .ok (.int .i64 V) w := fun _ _ => by kernel_rfl
 go_enter Try.func51, Try.ntmps51
 go_wp2_with fail
 refine (C.out _).mono ?_
 rintro e w1 ⟨⟨ok, rfl⟩, hB⟩
 go_wp2_with fail
 go_ret
 exact ⟨rfl, hB⟩
end Go.Proofs.Ytgakmnholegbgaa.B
end
section
namespace Go.Proofs.Ytgakmnholegbgaa.B
open Go.RowKit Go.Proofs.YtgakmnholegbgaaW.PrintWords Go.Proofs.YtgakmnholegbgaaW.PrintLast Go.Proofs.YtgakmnholegbgaaW.PrintMore
set_option linter.unusedVariables false
set_option linter.unusedSimpArgs false
def cl (a lo hi : Int) : Int := if a < lo then lo else if hi < a then hi else a
end Go.Proofs.Ytgakmnholegbgaa.B
end
section
namespace Go.Proofs.Ytgakmnholegbgaa.B
open Go.RowKit Go.Proofs.YtgakmnholegbgaaW.PrintWords Go.Proofs.YtgakmnholegbgaaW.PrintLast Go.Proofs.YtgakmnholegbgaaW.PrintMore
set_option linter.unusedVariables false
set_option linter.unusedSimpArgs false
theorem tmod_emodR (n m : Int) (hm : 0 < m) (hm2 : m ≤ 4294967296) : Int.tmod (wrap64 (Int.tmod n m + m)) m = n % m := by
 have h1 : Int.tmod n m < m := Int.tmod_lt_of_pos n hm
 have h2 : -m < Int.tmod n m := by have := Int.tmod_lt_of_pos (-n) hm; rw [Int.neg_tmod] at this; omega
 have hw : wrap64 (Int.tmod n m + m) = Int.tmod n m + m := by unfold wrap64; omega
 rw [hw, Int.tmod_eq_emod_of_nonneg (by omega)]
 rw [Int.add_emod_right, Int.emod_def (Int.tmod n m), Int.tmod_def, Int.emod_def n m]
 have q1 : (n - m * n.tdiv m) % m = n % m := by rw [Int.sub_emod, Int.mul_emod_right, Int.sub_zero, Int.emod_emod_of_dvd n (Int.dvd_refl m)]
 rw [← Int.emod_def, ← Int.emod_def, q1]
theorem rmod_any (n m : Int) (hm : m = 65536 ∨ m = 16777216 ∨ m = 4294967296) (w : World) : Calls Try.prog 70 #[.int .i64 n, .int .i64 m] w fun e w' => e = .returned (.int .i64 (n % m)) ∧ w' = w := by
 have key := tmod_emodR n m (by omega) (by omega)
 obtain ⟨R, hR⟩ : ∃ R, R = n % m := ⟨_, rfl⟩
 rw [← hR] at key ⊢
 have HR := Aside0.mk key
 clear hR key
 rcases hm with rfl | rfl | rfl
 all_goals
  go_enter Try.func70, Try.ntmps70
  go_wp2
  go_ret
  exact ⟨by rw [← HR.out]; rfl, rfl⟩
theorem rcut16 (n : Int) (w : World) : Calls Try.prog 50 #[.int .i64 n, .int .i64 16] w fun e w' => e = .returned (.int .i64 (n % 65536)) ∧ w' = w := by
 have C := Aside0.mk (fun w => rmod_any n 65536 (.inl rfl) w)
 go_enter Try.func50, Try.ntmps50
 go_wp2_with fail
 refine (C.out _).mono ?_
 rintro e w1 ⟨rfl, hw⟩
 obtain rfl := hw.symm
 go_wp2_with fail
 go_ret
 exact ⟨rfl, rfl⟩
theorem far_max (l : Int) : max (-1152921504606846976) (min l 1152921504606846976) = farP l := by unfold farP; omega
theorem up_is (F v m : Int) (hm : m = 16777216 ∨ m = 4294967296) : (wrap64 (Int.tmod v m - Int.tmod F m)) % m = (v - F) % m := by
 have hm0 : 0 < m := by omega
 have a1 := Int.tmod_lt_of_pos v hm0
 have a2 := Int.tmod_lt_of_pos F hm0
 have b1 := Int.tmod_lt_of_pos (-v) hm0
 have b2 := Int.tmod_lt_of_pos (-F) hm0
 rw [Int.neg_tmod] at b1 b2
 rw [show wrap64 (Int.tmod v m - Int.tmod F m) = Int.tmod v m - Int.tmod F m by unfold wrap64; omega]
 have e1 : Int.tmod v m % m = v % m := by rw [Int.tmod_def, Int.sub_emod, Int.mul_emod_right, Int.sub_zero, Int.emod_emod_of_dvd v (Int.dvd_refl m)]
 have e2 : Int.tmod F m % m = F % m := by rw [Int.tmod_def, Int.sub_emod, Int.mul_emod_right, Int.sub_zero, Int.emod_emod_of_dvd F (Int.dvd_refl m)]
 rw [Int.sub_emod, e1, e2, ← Int.sub_emod]
theorem rnear_any (l v k m : Int) (hm : (k = 24 ∧ m = 16777216) ∨ (k = 32 ∧ m = 4294967296)) (w : World) : Calls Try.prog 54 #[.int .i64 l, .int .i64 v, .int .i64 k] w fun e w' => e = .returned (.int .i64 (nearP m l v)) ∧ Below w.heap.size w w' := by
 obtain ⟨F, hF⟩ : ∃ F, F = farP l := ⟨_, rfl⟩
 have hr := far_range l
 rw [← hF] at hr
 have HM := Aside0.mk (far_max l)
 have hu := up_is F v m (by omega)
 have hmm : m = 65536 ∨ m = 16777216 ∨ m = 4294967296 := by omega
 have h0 := Int.emod_nonneg (v - F) (show m ≠ 0 by omega)
 have h1 := Int.emod_lt_of_pos (v - F) (show 0 < m by omega)
 have hN : nearP m l v = if m < 2 * ((v - F) % m) then F + (v - F) % m - m else F + (v - F) % m := by unfold nearP; rw [← hF]
 obtain ⟨U, hU⟩ : ∃ U, U = (v - F) % m := ⟨_, rfl⟩
 rw [← hU] at hu h0 h1 hN
 have C := Aside0.mk (fun w => rmod_any (wrap64 (Int.tmod v m - Int.tmod F m)) m hmm w)
 rw [hu] at C
 rw [← hF] at HM
 by_cases hup : m < 2 * U
 ·rw [if_pos hup] at hN
  rw [hN]
  have d1 : decide (U ≤ m / 2) = false := decide_eq_false (by omega)
  have HH := Aside0.mk (And.intro hU hN)
  clear hu hmm hU hN hF
  rcases hm with ⟨rfl, rfl⟩ | ⟨rfl, rfl⟩
  all_goals
   go_enter Try.func54, Try.ntmps54
   go_wp2_with fail
   rw [HM.out]
   go_quiet ((go_at_call 70; exact Calls.quiet_of_same (C.out _)))
   go_wp2_with fail
   go_ret
   exact ⟨rfl, Drawn0.below ⟨_, rfl⟩⟩
 ·rw [if_neg hup] at hN
  rw [hN]
  have d1 : decide (U ≤ m / 2) = true := decide_eq_true (by omega)
  have HH := Aside0.mk (And.intro hU hN)
  clear hu hmm hU hN hF
  rcases hm with ⟨rfl, rfl⟩ | ⟨rfl, rfl⟩
  all_goals
   go_enter Try.func54, Try.ntmps54
   go_wp2_with fail
   rw [HM.out]
   go_quiet ((go_at_call 70; exact Calls.quiet_of_same (C.out _)))
   go_wp2_with fail
   go_ret
   exact ⟨rfl, Drawn0.below ⟨_, rfl⟩⟩
theorem rclampR (a lo hi : Int) (w : World) : Calls Try.prog 21 #[.int .i64 a, .int .i64 lo, .int .i64 hi] w fun e w' => e = .returned (.int .i64 (cl a lo hi)) ∧ w' = w := by
 have hc : (a < lo ∧ cl a lo hi = lo) ∨ (lo ≤ a ∧ hi < a ∧ cl a lo hi = hi) ∨ (lo ≤ a ∧ a ≤ hi ∧ cl a lo hi = a) := by
  unfold cl; split; exact .inl ⟨by omega, rfl⟩; split; exact .inr (.inl ⟨by omega, by omega, rfl⟩); exact .inr (.inr ⟨by omega, by omega, rfl⟩)
 generalize cl a lo hi = V at *
 rcases hc with ⟨h, hV⟩ | ⟨h, h2, hV⟩ | ⟨h, h2, hV⟩
 all_goals
  subst hV
  go_enter Try.func21, Try.ntmps21
  go_wp2
  go_ret
  exact ⟨rfl, rfl⟩
theorem rfrom_any (s near : Int) (hs : U32 s) (hn : I64 near) (w : World) : Calls Try.prog 49 #[.int .u32 s, .int .i64 near] w fun e w' => e = .returned (.int .i64 (fromP s near)) ∧ Below w.heap.size w w' := by
 have hT : I64 (nearT near) := by unfold nearT I64; omega
 have C0 := Aside0.mk (fun w => rclampR near (-1125899906842624) 1125899906842624 w)
 rw [show cl near (-1125899906842624) 1125899906842624 = nearT near by unfold cl nearT; split; omega; split <;> omega] at C0
 have C1 := Aside0.mk (fun w => rdo_any (nearT near) 65536 1000000 1 hT (by unfold I64; omega) (by unfold I64; omega) (by unfold I64; omega) w)
 obtain ⟨n, hn'⟩ : ∃ n, n = stampP (nearT near) := ⟨_, rfl⟩
 have e1 : mdo (nearT near) 65536 1000000 1 = n := hn'.symm
 rw [e1] at C1
 have C2 := Aside0.mk (fun w => rnear_any n s 32 4294967296 (.inr ⟨rfl, rfl⟩) w)
 have C3 := Aside0.mk (fun w => rdo_any (nearP 4294967296 n s) 1000000 65536 3 (near_range _ _ _ (by omega)) (by unfold I64; omega) (by unfold I64; omega) (by unfold I64; omega) w)
 obtain ⟨M, hM⟩ : ∃ M, M = nearP 4294967296 n s := ⟨_, rfl⟩
 rw [← hM] at C2 C3
 have e2 : fromP s near = mdo M 1000000 65536 3 := by unfold fromP; rw [hM, hn']
 rw [e2]
 generalize mdo M 1000000 65536 3 = V at *
 generalize nearT near = T at *
 have hs0 : 0 ≤ s := by unfold U32 at hs; omega
 have hs1 : s ≤ 4294967295 := by unfold U32 at hs; omega
 have HE := Aside0.mk (And.intro hn' (And.intro e1 (And.intro hM e2)))
 clear hn' e1 hM e2 hT hs
 go_enter Try.func49, Try.ntmps49
 go_wp2_with fail
 refine (C0.out _).mono ?_
 rintro e w0 ⟨rfl, hw⟩
 obtain rfl := hw.symm
 go_wp2_with fail
 refine (C1.out _).mono ?_
 rintro e w1 ⟨rfl, hB⟩
 have B1 := Aside0.mk hB
 clear hB
 go_wp2_with fail
 refine (C2.out _).mono ?_
 rintro e w2 ⟨rfl, hB⟩
 have B2 := Aside0.mk (B1.out.trans (hB.mono B1.out.size))
 clear hB
 go_wp2_with fail
 refine (C3.out _).mono ?_
 rintro e w3 ⟨rfl, hB⟩
 have B3 := Aside0.mk (B2.out.trans (hB.mono B2.out.size))
 clear hB
 go_wp2_with fail
 go_ret
 exact ⟨rfl, B3.out⟩
end Go.Proofs.Ytgakmnholegbgaa.B
end
section
namespace Go.Proofs.Ytgakmnholegbgaa.B
open Go.RowKit Go.Proofs.YtgakmnholegbgaaW.PrintWords Go.Proofs.YtgakmnholegbgaaW.PrintLast Go.Proofs.YtgakmnholegbgaaW.PrintMore
set_option linter.unusedVariables false
set_option linter.unusedSimpArgs false
structure FR (w0 w : World) (g2 : Nat) (o : Obj) (vl : Value) (X : List R5) : Prop where
 k2 : w.heap[g2]? = some o
 rl : RowV w w0.heap.size 58 5 vl X.length (repV X)
 bel : Below w0.heap.size w0 w
 w2 : w0.heap.size ≤ g2
theorem FR.step {w0 w w1 : World} {g2 : Nat} {o : Obj} {vl : Value} {X : List R5} (h : FR w0 w g2 o vl X) (hb : Below w.heap.size w w1) : FR w0 w1 g2 o vl X :=
 ⟨(hb.block g2 (by
  rcases Nat.lt_or_ge g2 w.heap.size with h' | h'
  ·exact h'
  ·have := h.k2
   rw [Array.getElem?_eq_none h'] at this
   cases this)).trans h.k2, h.rl.below hb, h.bel.trans (hb.mono h.bel.size), h.w2⟩
theorem FR.push {w0 w w6 : World} {g2 : Nat} {cs : Array Value} {t : TypeId} {vl v1 : Value} {X : List R5} {x : R5} (h : FR w0 w g2 (.cells cs t (0, 0)) vl X) (ht : t ≠ 58) (hG : w.grownBy w6 vl.ownBlock) (hR : RowV w6 w0.heap.size 58 5 v1 (X.length + 1) (repV X ++ repC x)) : FR w0 w6 g2 (.cells cs t (0, 0)) v1 (X ++ [x]) :=
 ⟨gb_blkR hG h.rl h.k2 ht, by rw [repV_snoc, List.length_append]; exact hR, below_new h.bel hG (fun k hk => (h.rl.lt hk).2.1), h.w2⟩
def R1F (w : World) (g2 : Nat) (o : Obj) (now : Int) (L : List (B3 × Value)) (v5 v7 : Value) (wr : World) : Prop := ∃ (j : Nat), v7 = .int .i64 j ∧ j ≤ L.length ∧ Aside0 (FR w wr g2 o v5 (repsB now ((L.map (·.1)).take j)))
def R2F (w : World) (g2 : Nat) (o : Obj) (now F : Int) (ms : List M3) (R : List R5) (v5 v8 : Value) (wr : World) : Prop := ∃ (k : Nat), v8 = .int .i64 k ∧ k ≤ ms.length ∧ Aside0 (FR w wr g2 o v5 (R ++ repsM now F ms k))
def RepsPost (X : List R5) (w : World) (e : Ending) (w' : World) : Prop := ∃ v, e = .returned v ∧ RowV w' w.heap.size 58 5 v X.length (repV X) ∧ Below w.heap.size w w'
set_option maxHeartbeats 16000000 in
set_option maxRecDepth 100000 in
theorem rfirst_any (w : World) (b : Nat) (vB : Value) (S st near : Int) (L : List (B3 × Value)) (hL : BlocksV w b vB L)
  (hst : U32 st) (hn : I64 near) (hl : L.length ≤ 16) (hx : ∀ x ∈ L, (0 ≤ x.1.2.1 ∧ x.1.2.1 ≤ 65535) ∧ x.1.2.2.length ≤ 4096 ∧ ∀ m ∈ x.1.2.2, 0 ≤ m.2.2 ∧ m.2.2 ≤ 8191) :
  Calls Try.prog 23 #[.agg #[.int .u32 S, vB, .int .u32 st], .int .i64 near] w (RepsPost (repsB (fromP st near) (L.map (·.1))) w) := by
 obtain ⟨BA, bc, rfl, -, -⟩ := hL.1.form
 obtain ⟨now, hnow⟩ : ∃ a, a = fromP st near := ⟨_, rfl⟩
 have CN := Aside0.mk (fun w => rfrom_any st near hst hn w)
 rw [← hnow] at CN ⊢
 have HNOW := Aside0.mk hnow
 clear hnow
 have HX := Aside0.mk hx
 have HL0 := Aside0.mk hL
 clear hL hx
 go_enter Try.func23, Try.ntmps23
 have K2 := blk_new w (.cells #[.int .u32 S, .slice BA L.length bc, .int .u32 st] 53)
 have HS : Aside0 (FR w (w.alloc (.cells #[.int .u32 S, .slice BA L.length bc, .int .u32 st] 53)) w.heap.size (.cells #[.int .u32 S, .slice BA L.length bc, .int .u32 st] 53 (0, 0)) (.slice none 0 0) []) := ⟨⟨K2, RowV.nil _ _ _ _, (Below.refl _ _).alloc (Nat.le_refl _) _, Nat.le_refl _⟩⟩
 clear K2
 go_wp2_with fail
 refine (CN.out _).mono ?_
 rintro e w2 ⟨rfl, hb2⟩
 replace HS := Aside0.mk (HS.out.step hb2)
 obtain ⟨g2, hg2⟩ : ∃ g, g = w.heap.size := ⟨_, rfl⟩
 rw [← hg2] at HS ⊢
 clear hb2 hg2 CN
 go_wp2_with fail
 go_loopw [5, 7, 8, 9, 10] (fun v5 v7 _ _ _ wr => R1F w g2 (.cells #[.int .u32 S, .slice BA L.length bc, .int .u32 st] 53 (0, 0)) now L v5 v7 wr) (fun _ v _ _ _ _ => L.length - (intOf v).toNat)
 case atStart => exact ⟨0, rfl, by omega, HS⟩
 case round =>
  clear HS
  obtain ⟨j, rfl, hj, HS⟩ := hrel
  have c1 := blk_cell HS.out.k2 1
  simp only [List.getElem?_toArray, List.getElem?_cons_zero, List.getElem?_cons_succ] at c1
  by_cases hlt : j < L.length
  ·have q4 : decide ((j : Int) < (L.length : Int)) = true := decide_eq_true (by omega)
   obtain ⟨⟨⟨ss, F, ms⟩, vm⟩, hx⟩ : ∃ x, L[j]? = some x := ⟨L[j]'hlt, List.getElem?_eq_getElem hlt⟩
   have hmem := List.mem_of_getElem? hx
   obtain ⟨⟨hF0, hF1⟩, hml, hag⟩ := HX.out _ hmem
   have hM0 := HL0.out.2 _ hmem
   dsimp only at hF0 hF1 hml hag hM0
   have HM0 := Aside0.mk hM0
   have HXJ := Aside0.mk hx
   have HAG := Aside0.mk hag
   obtain ⟨MA, mc, rfl, -, -⟩ := hM0.form
   have i0 : (0 : Int) ≤ (j : Int) := by omega
   have i1 : (j : Int) < (L.length : Int) := by omega
   clear hM0 hx hag hmem
   go_wp2_with fail
   clear c1
   obtain ⟨R', hR'⟩ : ∃ R', R' = repsB now ((L.map (·.1)).take j) := ⟨_, rfl⟩
   rw [← hR'] at HS
   have HRR := Aside0.mk hR'
   clear hR'
   go_loopw [5, 8, 9, 10] (fun v5 v8 _ _ wr => R2F w g2 (.cells #[.int .u32 S, .slice BA L.length bc, .int .u32 st] 53 (0, 0)) now F ms R' v5 v8 wr) (fun _ v _ _ _ => ms.length - (intOf v).toNat)
   case atStart => exact ⟨0, rfl, by omega, ⟨by simpa [repsM] using HS.out⟩⟩
   case round =>
    clear HS
    rename_i vl _ _ _ _
    obtain ⟨k, rfl, hk, HS⟩ := hrel
    have HLW := Aside0.mk (HL0.out.below HS.out.bel)
    obtain ⟨ga, oa, ca, e_, _, _, _, hxa⟩ := HLW.out.1.some_ (by omega)
    injection e_ with e_ _ e2_
    subst e_
    subst e2_
    obtain ⟨-, u1, u2⟩ := blkV_get HXJ.out
    replace u1 := hxa _ _ u1
    replace u2 := hxa _ _ u2
    rw [← Nat.add_assoc] at u1 u2
    have c1 := blk_cell HS.out.k2 1
    simp only [List.getElem?_toArray, List.getElem?_cons_zero, List.getElem?_cons_succ] at c1
    clear hxa
    by_cases hkt : k < ms.length
    ·have q5 : decide ((k : Int) < (ms.length : Int)) = true := decide_eq_true (by omega)
     obtain ⟨⟨got, ecn, ago⟩, hm⟩ : ∃ m, ms[k]? = some m := ⟨ms[k]'hkt, List.getElem?_eq_getElem hkt⟩
     obtain ⟨ma, mo, mc', e_, _, _, _, hxm⟩ := (HM0.out.below HS.out.bel).some_ (by omega)
     injection e_ with e_ _ e2_
     subst e_
     subst e2_
     obtain ⟨v0, v1, v2⟩ := metV_get hm
     replace v0 := hxm _ _ v0
     replace v1 := hxm _ _ v1
     replace v2 := hxm _ _ v2
     rw [← Nat.add_assoc] at v1 v2
     have k0 : (0 : Int) ≤ (k : Int) := by omega
     have k1 : (k : Int) < (ms.length : Int) := by omega
     have HMK := Aside0.mk hm
     have hag9 := HAG.out _ (List.mem_of_getElem? hm)
     dsimp only at hag9
     have h2l := blk_lt HS.out.k2
     have hgl := (HLW.out.1.lt (k := ga) rfl).1
     have hml2 := ((HM0.out.below HS.out.bel).lt (k := ma) rfl).1
     have hXl : (R' ++ repsM now F ms k).length ≤ 100000 := by
      rw [List.length_append, repsM_length, HRR.out]
      have h := repsB_le now ((L.map (·.1)).take j) (fun x hx => by
       obtain ⟨y, hy, rfl⟩ := List.mem_map.1 (List.mem_of_mem_take hx)
       exact (HX.out y hy).2.1)
      have h2 := List.length_take_le j (L.map (·.1))
      omega
     obtain ⟨X, hX⟩ : ∃ X, X = R' ++ repsM now F ms k := ⟨_, rfl⟩
     rw [← hX] at HS hXl
     have HXX := Aside0.mk hX
     clear hX hm hxm
     go_upto_region 10 with fail
     have X9 := Aside0.mk (blk_new wr (.cells #[.bool got, .int .i64 ecn, .int .i64 ago] 45))
     have u1' : (wr.alloc (.cells #[.bool got, .int .i64 ecn, .int .i64 ago] 45)).cell? ⟨ga, oa + j * 3 + 1, none⟩ = some (.int .i64 F) := (World.cell?_alloc_past _ _ _ hgl).trans u1
     have c1' : (wr.alloc (.cells #[.bool got, .int .i64 ecn, .int .i64 ago] 45)).cell? ⟨g2, 1, none⟩ = some (.slice (some ⟨ga, oa, none⟩) L.length bc) := (World.cell?_alloc_past _ _ _ h2l).trans c1
     replace HS := Aside0.mk (HS.out.step ((Below.refl wr.heap.size wr).alloc (Nat.le_refl _) (.cells #[.bool got, .int .i64 ecn, .int .i64 ago] 45)))
     obtain ⟨g9, hg9⟩ : ∃ g, g = wr.heap.size := ⟨_, rfl⟩
     rw [← hg9] at X9 ⊢
     clear hg9 u1 u2 v0 v1 v2 c1 h2l hgl hml2 HLW
     generalize wr.alloc (.cells #[.bool got, .int .i64 ecn, .int .i64 ago] 45) = w9 at *
     go_wp2_with fail
     refine (rcut16 _ _).mono ?_
     rintro e w5 ⟨rfl, hw5⟩
     obtain rfl := hw5.symm
     have h9l := blk_lt X9.out
     have y0 := blk_cell X9.out 0
     simp only [List.getElem?_toArray, List.getElem?_cons_zero, List.getElem?_cons_succ] at y0
     have y0' : ∀ o, (w9.alloc o).cell? ⟨g9, 0, none⟩ = some (.bool got) := fun o => (World.cell?_alloc_past _ _ _ h9l).trans y0
     have BB : Aside0 (Below w9.heap.size w9 (w9.alloc (.cells #[.int .i64 ((F + (k : Int)) % 65536), .bool false, .int .i64 0, .bool false, .bool false] 58))) := ⟨(Below.refl _ _).alloc (Nat.le_refl _) _⟩
     have XX : Aside0 ((w9.alloc (.cells #[.int .i64 ((F + (k : Int)) % 65536), .bool false, .int .i64 0, .bool false, .bool false] 58)).heap[w9.heap.size]? = some (.cells #[.int .i64 ((F + (k : Int)) % 65536), .bool false, .int .i64 0, .bool false, .bool false] 58 (0, 0))) := ⟨blk_new w9 (.cells #[.int .i64 ((F + (k : Int)) % 65536), .bool false, .int .i64 0, .bool false, .bool false] 58)⟩
     obtain ⟨gA, hgA⟩ : ∃ g, g = w9.heap.size := ⟨_, rfl⟩
     have hA9 : w9.heap.size ≤ gA := Nat.le_of_eq hgA.symm
     cases got with
     | false =>
      go_upto_region 16 with fail
      rw [← hgA] at XX ⊢
      clear y0 y0' hgA u1' c1'
      generalize w9.alloc (.cells #[.int .i64 ((F + (k : Int)) % 65536), .bool false, .int .i64 0, .bool false, .bool false] 58) = wx at *
      have HSX := Aside0.mk (HS.out.step BB.out)
      have hXE : X ++ [(((F + (k : Int)) % 65536), false, 0, false, false)] = R' ++ repsM now F ms (k + 1) := by rw [repsM_succ HMK.out, ← List.append_assoc, ← HXX.out, rep1_no rfl]
      have HXE := Aside0.mk hXE
      clear hXE
      have x0 := blk_cell XX.out 0
      simp only [List.getElem?_toArray, List.getElem?_cons_zero, List.getElem?_cons_succ] at x0
      have x1 := blk_cell XX.out 1
      simp only [List.getElem?_toArray, List.getElem?_cons_zero, List.getElem?_cons_succ] at x1
      have x2 := blk_cell XX.out 2
      simp only [List.getElem?_toArray, List.getElem?_cons_zero, List.getElem?_cons_succ] at x2
      have x3 := blk_cell XX.out 3
      simp only [List.getElem?_toArray, List.getElem?_cons_zero, List.getElem?_cons_succ] at x3
      have x4 := blk_cell XX.out 4
      simp only [List.getElem?_toArray, List.getElem?_cons_zero, List.getElem?_cons_succ] at x4
      have XS := Aside0.mk (HSX.out.step ((Below.refl wx.heap.size wx).alloc (Nat.le_refl _) (.cells #[.int .i64 ((F + (k : Int)) % 65536), .bool false, .int .i64 0, .bool false, .bool false] 58)))
      have HNX : Aside0 (∀ j u, ([.int .i64 ((F + (k : Int)) % 65536), .bool false, .int .i64 0, .bool false, .bool false] : List Value)[j]? = some u → (wx.alloc (.cells #[.int .i64 ((F + (k : Int)) % 65536), .bool false, .int .i64 0, .bool false, .bool false] 58)).cell? ((⟨wx.heap.size, 0, none⟩ : Addr).add j) = some u) := ⟨new_news wx [.int .i64 ((F + (k : Int)) % 65536), .bool false, .int .i64 0, .bool false, .bool false] 58⟩
      have HBX : Aside0 (w.heap.size ≤ (wx.alloc (.cells #[.int .i64 ((F + (k : Int)) % 65536), .bool false, .int .i64 0, .bool false, .bool false] 58)).heap.size) := ⟨XS.out.bel.size⟩
      obtain ⟨Av, cv, rfl, -, -⟩ := HS.out.rl.form
      go_wp2_with (at_builtin; go_loud (refine row_append (w := wx.alloc (.cells #[.int .i64 ((F + (k : Int)) % 65536), .bool false, .int .i64 0, .bool false, .bool false] 58)) rfl (.tmp 69) (.tmp 71) 23 rfl 58 Try.t58 (.agg #[.int .i64 0, .bool false, .int .i64 0, .bool false, .bool false]) 5 32 Try.underlying23 (by kernel_rfl) rfl rfl rfl (by decide) (by decide) w.heap.size (.slice Av X.length cv) X.length (repV X) (by rfl) XS.out.rl ⟨wx.heap.size, 0, none⟩ 1 1 [.int .i64 ((F + (k : Int)) % 65536), .bool false, .int .i64 0, .bool false, .bool false] (by rfl) rfl HNX.out (by simp [Value.oneCell']) (by simp only [maxLen]; omega) (by omega) HBX.out ?_); intro v1 w6 hR6 hG6 hO6 hF6; have TN := Aside0.mk (XS.out.push (x := (((F + (k : Int)) % 65536), false, 0, false, false)) (by decide) hG6 hR6); clear hR6 hG6 hO6 hF6)
      rw [HXE.out] at TN
      exact ⟨⟨k + 1, by simp, by omega, TN⟩, by simp [intOf]; omega⟩
     | true =>
      go_wp2_with fail
      rw [← hgA] at XX ⊢
      clear y0 y0' hgA u1' c1'
      generalize w9.alloc (.cells #[.int .i64 ((F + (k : Int)) % 65536), .bool false, .int .i64 0, .bool false, .bool false] 58) = wA at *
      have X9A := Aside0.mk ((BB.out.block g9 (blk_lt X9.out)).trans X9.out)
      have y1 := blk_cell X9A.out 1
      have a1 := blk_cell XX.out 1
      have a4 := blk_cell XX.out 4
      have f1 := blk_frozen XX.out 1
      have f4 := blk_frozen XX.out 4
      simp only [List.getElem?_toArray, List.getElem?_cons_zero, List.getElem?_cons_succ] at y1 a1 a4
      go_region
      clear y1 a1 a4 f1 f4
      have e_ := blk_set (w := (wA.setCell ⟨gA, 1, none⟩ (.bool true))) (blk_set (w := wA) XX.out 1 (.bool true)) 4 (.bool (ecn == 3))
      simp only [List.setIfInBounds_toArray, List.set_cons_zero, List.set_cons_succ] at e_
      have BB2 : Aside0 (Below w9.heap.size w9 (((wA.setCell ⟨gA, 1, none⟩ (.bool true)).setCell ⟨gA, 4, none⟩ (.bool (ecn == 3)))).drew) := ⟨(((BB.out.setCell (p := ⟨gA, 1, none⟩) hA9 (.bool true)).setCell (p := ⟨gA, 4, none⟩) hA9 (.bool (ecn == 3)))).drew⟩
      have XX2 : Aside0 ((((wA.setCell ⟨gA, 1, none⟩ (.bool true)).setCell ⟨gA, 4, none⟩ (.bool (ecn == 3)))).drew.heap[gA]? = some (.cells #[.int .i64 ((F + (k : Int)) % 65536), .bool true, .int .i64 0, .bool false, .bool (ecn == 3)] 58 (0, 0))) := ⟨e_⟩
      clear e_ BB XX
      generalize (((wA.setCell ⟨gA, 1, none⟩ (.bool true)).setCell ⟨gA, 4, none⟩ (.bool (ecn == 3)))).drew = wB at *
      have BB := BB2
      have XX := XX2
      clear BB2 XX2
      have X9B := Aside0.mk ((BB.out.block g9 (blk_lt X9.out)).trans X9.out)
      have y2 := blk_cell X9B.out 2
      have a3 := blk_cell XX.out 3
      have f3 := blk_frozen XX.out 3
      simp only [List.getElem?_toArray, List.getElem?_cons_zero, List.getElem?_cons_succ] at y2 a3
      by_cases hla : 8190 ≤ ago
      ·have q8 : decide (8190 ≤ ago) = true := decide_eq_true hla
       have HLA := Aside0.mk hla
       clear hla
       go_upto_region 16 with fail
       clear y2 a3 f3
       have e_ := blk_set (w := wB) XX.out 3 (.bool true)
       simp only [List.setIfInBounds_toArray, List.set_cons_zero, List.set_cons_succ] at e_
       have BB2 : Aside0 (Below w9.heap.size w9 (wB.setCell ⟨gA, 3, none⟩ (.bool true))) := ⟨(BB.out.setCell (p := ⟨gA, 3, none⟩) hA9 (.bool true))⟩
       have XX2 : Aside0 ((wB.setCell ⟨gA, 3, none⟩ (.bool true)).heap[gA]? = some (.cells #[.int .i64 ((F + (k : Int)) % 65536), .bool true, .int .i64 0, .bool true, .bool (ecn == 3)] 58 (0, 0))) := ⟨e_⟩
       clear e_ BB XX
       generalize (wB.setCell ⟨gA, 3, none⟩ (.bool true)) = wx at *
       have BB := BB2
       have XX := XX2
       clear BB2 XX2
       have HSX := Aside0.mk (HS.out.step BB.out)
       have hXE : X ++ [(((F + (k : Int)) % 65536), true, 0, true, (ecn == 3))] = R' ++ repsM now F ms (k + 1) := by rw [repsM_succ HMK.out, ← List.append_assoc, ← HXX.out, rep1_late rfl HLA.out]
       have HXE := Aside0.mk hXE
       clear hXE
       have x0 := blk_cell XX.out 0
       simp only [List.getElem?_toArray, List.getElem?_cons_zero, List.getElem?_cons_succ] at x0
       have x1 := blk_cell XX.out 1
       simp only [List.getElem?_toArray, List.getElem?_cons_zero, List.getElem?_cons_succ] at x1
       have x2 := blk_cell XX.out 2
       simp only [List.getElem?_toArray, List.getElem?_cons_zero, List.getElem?_cons_succ] at x2
       have x3 := blk_cell XX.out 3
       simp only [List.getElem?_toArray, List.getElem?_cons_zero, List.getElem?_cons_succ] at x3
       have x4 := blk_cell XX.out 4
       simp only [List.getElem?_toArray, List.getElem?_cons_zero, List.getElem?_cons_succ] at x4
       have XS := Aside0.mk (HSX.out.step ((Below.refl wx.heap.size wx).alloc (Nat.le_refl _) (.cells #[.int .i64 ((F + (k : Int)) % 65536), .bool true, .int .i64 0, .bool true, .bool (ecn == 3)] 58)))
       have HNX : Aside0 (∀ j u, ([.int .i64 ((F + (k : Int)) % 65536), .bool true, .int .i64 0, .bool true, .bool (ecn == 3)] : List Value)[j]? = some u → (wx.alloc (.cells #[.int .i64 ((F + (k : Int)) % 65536), .bool true, .int .i64 0, .bool true, .bool (ecn == 3)] 58)).cell? ((⟨wx.heap.size, 0, none⟩ : Addr).add j) = some u) := ⟨new_news wx [.int .i64 ((F + (k : Int)) % 65536), .bool true, .int .i64 0, .bool true, .bool (ecn == 3)] 58⟩
       have HBX : Aside0 (w.heap.size ≤ (wx.alloc (.cells #[.int .i64 ((F + (k : Int)) % 65536), .bool true, .int .i64 0, .bool true, .bool (ecn == 3)] 58)).heap.size) := ⟨XS.out.bel.size⟩
       obtain ⟨Av, cv, rfl, -, -⟩ := HS.out.rl.form
       go_wp2_with (at_builtin; go_loud (refine row_append (w := wx.alloc (.cells #[.int .i64 ((F + (k : Int)) % 65536), .bool true, .int .i64 0, .bool true, .bool (ecn == 3)] 58)) rfl (.tmp 69) (.tmp 71) 23 rfl 58 Try.t58 (.agg #[.int .i64 0, .bool false, .int .i64 0, .bool false, .bool false]) 5 32 Try.underlying23 (by kernel_rfl) rfl rfl rfl (by decide) (by decide) w.heap.size (.slice Av X.length cv) X.length (repV X) (by rfl) XS.out.rl ⟨wx.heap.size, 0, none⟩ 1 1 [.int .i64 ((F + (k : Int)) % 65536), .bool true, .int .i64 0, .bool true, .bool (ecn == 3)] (by rfl) rfl HNX.out (by simp [Value.oneCell']) (by simp only [maxLen]; omega) (by omega) HBX.out ?_); intro v1 w6 hR6 hG6 hO6 hF6; have TN := Aside0.mk (XS.out.push (x := (((F + (k : Int)) % 65536), true, 0, true, (ecn == 3))) (by decide) hG6 hR6); clear hR6 hG6 hO6 hF6)
       rw [HXE.out] at TN
       exact ⟨⟨k + 1, by simp, by omega, TN⟩, by simp [intOf]; omega⟩
      ·have q8 : decide (8190 ≤ ago) = false := decide_eq_false hla
       have HLA := Aside0.mk hla
       clear hla
       have CD := Aside0.mk (fun w => rdo_any ago 1000000 1024 1 (by unfold I64; omega) (by unfold I64; omega) (by unfold I64; omega) (by unfold I64; omega) w)
       obtain ⟨D, hD⟩ : ∃ D, D = mdo ago 1000000 1024 1 := ⟨_, rfl⟩
       rw [← hD] at CD
       have HD := Aside0.mk hD
       clear hD
       go_wp2_with fail
       refine (CD.out _).mono ?_
       rintro e w5 ⟨rfl, hb5⟩
       replace XX := Aside0.mk ((hb5.block gA (blk_lt XX.out)).trans XX.out)
       replace BB := Aside0.mk (BB.out.trans (hb5.mono BB.out.size))
       clear hb5 y2 a3 f3 CD
       have a2 := blk_cell XX.out 2
       have f2 := blk_frozen XX.out 2
       simp only [List.getElem?_toArray, List.getElem?_cons_zero, List.getElem?_cons_succ] at a2
       go_upto_region 16 with fail
       clear a2 f2
       obtain ⟨T, hT⟩ : ∃ T, T = wrap64 (now - D) := ⟨_, rfl⟩
       rw [← hT]
       have HT := Aside0.mk hT
       clear hT
       have e_ := blk_set (w := w5) XX.out 2 (.int .i64 T)
       simp only [List.setIfInBounds_toArray, List.set_cons_zero, List.set_cons_succ] at e_
       have BB2 : Aside0 (Below w9.heap.size w9 (w5.setCell ⟨gA, 2, none⟩ (.int .i64 T))) := ⟨(BB.out.setCell (p := ⟨gA, 2, none⟩) hA9 (.int .i64 T))⟩
       have XX2 : Aside0 ((w5.setCell ⟨gA, 2, none⟩ (.int .i64 T)).heap[gA]? = some (.cells #[.int .i64 ((F + (k : Int)) % 65536), .bool true, .int .i64 T, .bool false, .bool (ecn == 3)] 58 (0, 0))) := ⟨e_⟩
       clear e_ BB XX
       generalize (w5.setCell ⟨gA, 2, none⟩ (.int .i64 T)) = wx at *
       have BB := BB2
       have XX := XX2
       clear BB2 XX2
       have HSX := Aside0.mk (HS.out.step BB.out)
       have hXE : X ++ [(((F + (k : Int)) % 65536), true, T, false, (ecn == 3))] = R' ++ repsM now F ms (k + 1) := by rw [repsM_succ HMK.out, ← List.append_assoc, ← HXX.out, rep1_at (m := (true, ecn, ago)) rfl (Int.not_le.2 HLA.out), ← HD.out, ← HT.out]
       have HXE := Aside0.mk hXE
       clear hXE
       have x0 := blk_cell XX.out 0
       simp only [List.getElem?_toArray, List.getElem?_cons_zero, List.getElem?_cons_succ] at x0
       have x1 := blk_cell XX.out 1
       simp only [List.getElem?_toArray, List.getElem?_cons_zero, List.getElem?_cons_succ] at x1
       have x2 := blk_cell XX.out 2
       simp only [List.getElem?_toArray, List.getElem?_cons_zero, List.getElem?_cons_succ] at x2
       have x3 := blk_cell XX.out 3
       simp only [List.getElem?_toArray, List.getElem?_cons_zero, List.getElem?_cons_succ] at x3
       have x4 := blk_cell XX.out 4
       simp only [List.getElem?_toArray, List.getElem?_cons_zero, List.getElem?_cons_succ] at x4
       have XS := Aside0.mk (HSX.out.step ((Below.refl wx.heap.size wx).alloc (Nat.le_refl _) (.cells #[.int .i64 ((F + (k : Int)) % 65536), .bool true, .int .i64 T, .bool false, .bool (ecn == 3)] 58)))
       have HNX : Aside0 (∀ j u, ([.int .i64 ((F + (k : Int)) % 65536), .bool true, .int .i64 T, .bool false, .bool (ecn == 3)] : List Value)[j]? = some u → (wx.alloc (.cells #[.int .i64 ((F + (k : Int)) % 65536), .bool true, .int .i64 T, .bool false, .bool (ecn == 3)] 58)).cell? ((⟨wx.heap.size, 0, none⟩ : Addr).add j) = some u) := ⟨new_news wx [.int .i64 ((F + (k : Int)) % 65536), .bool true, .int .i64 T, .bool false, .bool (ecn == 3)] 58⟩
       have HBX : Aside0 (w.heap.size ≤ (wx.alloc (.cells #[.int .i64 ((F + (k : Int)) % 65536), .bool true, .int .i64 T, .bool false, .bool (ecn == 3)] 58)).heap.size) := ⟨XS.out.bel.size⟩
       obtain ⟨Av, cv, rfl, -, -⟩ := HS.out.rl.form
       go_wp2_with (at_builtin; go_loud (refine row_append (w := wx.alloc (.cells #[.int .i64 ((F + (k : Int)) % 65536), .bool true, .int .i64 T, .bool false, .bool (ecn == 3)] 58)) rfl (.tmp 69) (.tmp 71) 23 rfl 58 Try.t58 (.agg #[.int .i64 0, .bool false, .int .i64 0, .bool false, .bool false]) 5 32 Try.underlying23 (by kernel_rfl) rfl rfl rfl (by decide) (by decide) w.heap.size (.slice Av X.length cv) X.length (repV X) (by rfl) XS.out.rl ⟨wx.heap.size, 0, none⟩ 1 1 [.int .i64 ((F + (k : Int)) % 65536), .bool true, .int .i64 T, .bool false, .bool (ecn == 3)] (by rfl) rfl HNX.out (by simp [Value.oneCell']) (by simp only [maxLen]; omega) (by omega) HBX.out ?_); intro v1 w6 hR6 hG6 hO6 hF6; have TN := Aside0.mk (XS.out.push (x := (((F + (k : Int)) % 65536), true, T, false, (ecn == 3))) (by decide) hG6 hR6); clear hR6 hG6 hO6 hF6)
       rw [HXE.out] at TN
       exact ⟨⟨k + 1, by simp, by omega, TN⟩, by simp [intOf]; omega⟩
    ·have q5 : decide ((k : Int) < (ms.length : Int)) = false := decide_eq_false (by omega)
     have hkl : k = ms.length := by omega
     rw [hkl] at HS
     have HS2 := Aside0.mk (show FR w _ g2 _ _ (repsB now ((L.map (·.1)).take (j + 1))) by
      rw [repsB_take (j := j) (x := (ss, F, ms)) (by rw [List.getElem?_map, HXJ.out]; rfl), ← HRR.out]
      exact HS.out)
     clear hkl
     go_wp2_with fail
     exact ⟨⟨j + 1, by simp, by omega, HS2⟩, by simp [intOf]; omega⟩
  ·have q4 : decide ((j : Int) < (L.length : Int)) = false := decide_eq_false (by omega)
   have hjl : (L.map (·.1)).take j = L.map (·.1) := List.take_of_length_le (by rw [List.length_map]; omega)
   rw [hjl] at HS
   clear hjl
   go_wp2_with fail
   go_ret
   exact ⟨_, rfl, HS.out.rl, HS.out.bel⟩
end Go.Proofs.Ytgakmnholegbgaa.B
end
section
namespace Go.Proofs.Ytgakmnholegbgaa.B
open Go.RowKit Go.Proofs.YtgakmnholegbgaaW.PrintWords Go.Proofs.YtgakmnholegbgaaW.PrintLast Go.Proofs.YtgakmnholegbgaaW.PrintMore
set_option linter.unusedVariables false
set_option linter.unusedSimpArgs false
def RS2 (w : World) (g2 : Nat) (o : Obj) (F a0 : Int) (l ds : List Int) (v5 v7 v8 v9 : Value) (wr : World) : Prop := ∃ i : Nat, v9 = .int .i64 i ∧ i ≤ l.length ∧ v7 = .int .i64 (atK a0 ds (cntK l i)) ∧ v8 = .int .i64 (cntK l i) ∧ Aside0 (FR w wr g2 o v5 (reps2 F a0 l ds i))
set_option maxHeartbeats 16000000 in
set_option maxRecDepth 100000 in
theorem rsecond_any (w : World) (b : Nat) (vS vD : Value) (S M F B C near : Int) (l ds : List Int) (hS : RowV w b 3 1 vS l.length (iV l)) (hD : RowV w b 3 1 vD ds.length (iV ds))
  (hc : cntK l l.length ≤ ds.length) (hF : 0 ≤ F ∧ F ≤ 65535) (hB : I64 B) (hn : I64 near) (hl : l.length ≤ 4096) :
  Calls Try.prog 25 #[.agg #[.int .u32 S, .int .u32 M, .int .i64 F, .int .i64 B, .int .i64 C, vS, vD], .int .i64 near] w (RepsPost (reps2 F (baseP near B) l ds l.length) w) := by
 obtain ⟨SA, sc, rfl, -, -⟩ := hS.form
 obtain ⟨DA, dc, rfl, -, -⟩ := hD.form
 obtain ⟨a0, ha0⟩ : ∃ a, a = baseP near B := ⟨_, rfl⟩
 rw [← ha0]
 have HA0 := Aside0.mk ha0
 have HC := Aside0.mk hc
 have CD := Aside0.mk (fun w => rdo_any near 1 64000 1 hn (by unfold I64; omega) (by unfold I64; omega) (by unfold I64; omega) w)
 obtain ⟨q, hq⟩ : ∃ q, q = mdo near 1 64000 1 := ⟨_, rfl⟩
 rw [← hq] at CD
 have CN := Aside0.mk (fun w => rnear_any q B 24 16777216 (.inl ⟨rfl, rfl⟩) w)
 have HQ := Aside0.mk hq
 have HS0 := Aside0.mk hS
 have HD0 := Aside0.mk hD
 clear hq ha0 hc hS hD
 go_enter Try.func25, Try.ntmps25
 have K2 := blk_new w (.cells #[.int .u32 S, .int .u32 M, .int .i64 F, .int .i64 B, .int .i64 C, .slice SA l.length sc, .slice DA ds.length dc] 63)
 have HS : Aside0 (FR w (w.alloc (.cells #[.int .u32 S, .int .u32 M, .int .i64 F, .int .i64 B, .int .i64 C, .slice SA l.length sc, .slice DA ds.length dc] 63)) w.heap.size (.cells #[.int .u32 S, .int .u32 M, .int .i64 F, .int .i64 B, .int .i64 C, .slice SA l.length sc, .slice DA ds.length dc] 63 (0, 0)) (.slice none 0 0) []) := ⟨⟨K2, RowV.nil _ _ _ _, (Below.refl _ _).alloc (Nat.le_refl _) _, Nat.le_refl _⟩⟩
 clear K2
 go_upto_region 2 with fail
 obtain ⟨g2, hg2⟩ : ∃ g, g = w.heap.size := ⟨_, rfl⟩
 rw [← hg2] at HS ⊢
 clear hg2
 generalize w.alloc (.cells #[.int .u32 S, .int .u32 M, .int .i64 F, .int .i64 B, .int .i64 C, .slice SA l.length sc, .slice DA ds.length dc] 63) = w1 at *
 have c3 := blk_cell HS.out.k2 3
 simp only [List.getElem?_toArray, List.getElem?_cons_zero, List.getElem?_cons_succ] at c3
 refine start_ (n := 6) (S := fun w' => w'.cell? ⟨g2, 3, none⟩ = some (.int .i64 B)) (ds := [4]) #[false, false, false, false, false, false] (by kernel_rfl) rfl rfl (c3) (fun hHeld => ?_)
 refine pure_ (i := 0) (N := some 11) (v := ?_) (a' := ?_) #[true, false, false, false, false, false] rfl rfl (by kernel_rfl) (fun _ _ _ h => h) (Or.inl ⟨by rfl, ?_⟩) ?_ ?_
 rotate_left
 ·intro w'
  go_simp
  with_reducible rfl
 rotate_left
 ·simp only [Act.put, List.setIfInBounds_toArray, List.set_cons_zero, List.set_cons_succ, i64_w, i32_w]
  rfl
 refine pure_ (i := 2) (N := some 13) (v := ?_) (a' := ?_) #[true, false, true, false, false, false] rfl rfl (by kernel_rfl) (fun _ _ _ h => h) (Or.inl ⟨by rfl, ?_⟩) ?_ ?_
 rotate_left
 ·intro w'
  go_simp
  with_reducible rfl
 rotate_left
 ·simp only [Act.put, List.setIfInBounds_toArray, List.set_cons_zero, List.set_cons_succ, i64_w, i32_w]
  rfl
 refine take_ (i := 3) (N := some 14) (v := ?_) (a' := ?_) #[true, false, true, true, false, false] rfl rfl (by kernel_rfl) (fun _ _ _ h => h) (Or.inl ⟨by rfl, ?_⟩) hHeld ?_ ?_
 rotate_left
 ·intro w' s0
  go_simp
  with_reducible rfl
 rotate_left
 ·simp only [Act.put, List.setIfInBounds_toArray, List.set_cons_zero, List.set_cons_succ, i64_w, i32_w]
  rfl
 refine one_ (i := 1) (N := some 12) #[true, true, true, true, false, false] rfl rfl (by kernel_rfl) (by decide) (fun K hK => ?_)
 refine goes_ Try.func51 (by kernel_rfl) rfl #[.int .i64 near, .int .i64 1, .int .i64 64000, .int .i64 1] (by rfl) rfl rfl (by simp only [List.map_toArray, List.map_cons, List.map_nil]; rfl) ?_
 with_reducible refine (CD.out _).mono ?_
 rintro e w2 ⟨rfl, hb2⟩
 refine ⟨_, rfl, ?_⟩
 have HS2 := Aside0.mk (HS.out.step (((Below.refl w1.heap.size w1).drew).trans hb2))
 have y3 := blk_cell HS2.out.k2 3
 simp only [List.getElem?_toArray, List.getElem?_cons_zero, List.getElem?_cons_succ] at y3
 clear hb2
 refine hK.out _ _ (y3) (fun hHeld => ?_)
 clear hK K
 refine norm_ (a' := ?_) ?_ ?_
 rotate_left
 ·show Act.put _ (some 12) _ = _
  simp only [Act.put, List.setIfInBounds_toArray, List.set_cons_zero, List.set_cons_succ, i64_w, i32_w]
  rfl
 refine last_ (i := 4) (N := some 15) #[true, true, true, true, true, false] rfl rfl (by kernel_rfl) (by decide) (fun K hK => ?_)
 refine goes_ Try.func54 (by kernel_rfl) rfl #[.int .i64 q, .int .i64 B, .int .i64 24] (by rfl) rfl rfl (by simp only [List.map_toArray, List.map_cons, List.map_nil]; rfl) ?_
 with_reducible refine (CN.out _).mono ?_
 rintro e w3 ⟨rfl, hb3⟩
 refine ⟨_, rfl, ?_⟩
 have HS3 := Aside0.mk (HS2.out.step hb3)
 clear hb3
 refine hK.out _ _ ?_
 clear hK K
 refine norm_ (a' := ?_) ?_ ?_
 rotate_left
 ·show Act.put _ (some 15) _ = _
  simp only [Act.put, List.setIfInBounds_toArray, List.set_cons_zero, List.set_cons_succ, i64_w, i32_w]
  rfl
 refine pure_ (i := 5) (N := some 6) (v := ?_) (a' := ?_) #[true, true, true, true, true, true] rfl rfl (by kernel_rfl) (fun _ _ _ h => h) (Or.inl ⟨by rfl, ?_⟩) ?_ ?_
 rotate_left
 ·intro w'
  go_simp
  with_reducible rfl
 rotate_left
 ·simp only [Act.put, List.setIfInBounds_toArray, List.set_cons_zero, List.set_cons_succ, i64_w, i32_w]
  rfl
 refine done_ (by kernel_rfl) ?_
 try clear hHeld
 have HSn := HS3
 clear HS HS2 HS3 c3 y3 CD CN
 have HS := HSn
 clear HSn
 have ea : wrap64 (64000 * nearP 16777216 q B) = a0 := by rw [HA0.out, HQ.out]; rfl
 go_wp2_with fail
 rw [ea]
 clear ea
 go_loopw [5, 7, 8, 9, 10] (fun v5 v7 v8 v9 _ wr => RS2 w g2 (.cells #[.int .u32 S, .int .u32 M, .int .i64 F, .int .i64 B, .int .i64 C, .slice SA l.length sc, .slice DA ds.length dc] 63 (0, 0)) F a0 l ds v5 v7 v8 v9 wr) (fun _ _ _ v _ _ => l.length - (intOf v).toNat)
 case atStart => exact ⟨0, rfl, by omega, rfl, rfl, HS⟩
 case round =>
  clear HS
  obtain ⟨i, rfl, hi, rfl, rfl, HS⟩ := hrel
  have c5 := blk_cell HS.out.k2 5
  have c2 := blk_cell HS.out.k2 2
  simp only [List.getElem?_toArray, List.getElem?_cons_zero, List.getElem?_cons_succ] at c5 c2
  by_cases hlt : i < l.length
  ·have q4 : decide ((i : Int) < (l.length : Int)) = true := decide_eq_true (by omega)
   obtain ⟨x, hx⟩ : ∃ x, l[i]? = some x := ⟨l[i]'hlt, List.getElem?_eq_getElem hlt⟩
   obtain ⟨sa, so, sc', e_, _, _, _, hxa⟩ := (HS0.out.below HS.out.bel).some_ (by omega)
   injection e_ with e_ _ e2_
   subst e_
   subst e2_
   have ux := hxa i (.int .i64 x) (by simp [iV, hx])
   have i0 : (0 : Int) ≤ (i : Int) := by omega
   have i1 : (i : Int) < (l.length : Int) := by omega
   have HX := Aside0.mk hx
   have h2l := blk_lt HS.out.k2
   have hsl := ((HS0.out.below HS.out.bel).lt (k := sa) rfl).1
   have hXl : (reps2 F a0 l ds i).length ≤ 5000 := by rw [reps2_length]; omega
   obtain ⟨X, hX⟩ : ∃ X, X = reps2 F a0 l ds i := ⟨_, rfl⟩
   rw [← hX] at HS hXl
   have HXX := Aside0.mk hX
   clear hx hxa hX
   go_wp2_with fail
   refine (rcut16 _ _).mono ?_
   rintro e w5 ⟨rfl, hw5⟩
   obtain rfl := hw5.symm
   have HI := Aside0.mk (show ∀ o, (wr.alloc o).cell? ⟨g2, 5, none⟩ = some (.slice (some ⟨sa, so, none⟩) l.length sc) from fun o => (World.cell?_alloc_past _ _ _ h2l).trans c5)
   have z5 := HI.out
   have zx : ∀ o, (wr.alloc o).cell? ⟨sa, so + i, none⟩ = some (.int .i64 x) := fun o => (World.cell?_alloc_past _ _ _ hsl).trans ux
   have XX : Aside0 ((wr.alloc (.cells #[.int .i64 ((F + (i : Int)) % 65536), .bool false, .int .i64 0, .bool false, .bool false] 58)).heap[wr.heap.size]? = some (.cells #[.int .i64 ((F + (i : Int)) % 65536), .bool false, .int .i64 0, .bool false, .bool false] 58 (0, 0))) := ⟨blk_new wr (.cells #[.int .i64 ((F + (i : Int)) % 65536), .bool false, .int .i64 0, .bool false, .bool false] 58)⟩
   have BB : Aside0 (Below wr.heap.size wr (wr.alloc (.cells #[.int .i64 ((F + (i : Int)) % 65536), .bool false, .int .i64 0, .bool false, .bool false] 58))) := ⟨(Below.refl _ _).alloc (Nat.le_refl _) _⟩
   obtain ⟨gA, hgA⟩ : ∃ g, g = wr.heap.size := ⟨_, rfl⟩
   have hA9 : wr.heap.size ≤ gA := Nat.le_of_eq hgA.symm
   by_cases hx0 : 0 < x
   ·have p1 : decide (0 < x) = true := decide_eq_true hx0
    have hcn : cntK l i < ds.length := by
     have h1 := cntK_yes HX.out hx0
     have h2 := cntK_mono l (show i + 1 ≤ l.length by omega)
     have h3 := HC.out
     omega
    obtain ⟨k, hk⟩ : ∃ k, k = cntK l i := ⟨_, rfl⟩
    have hki : k ≤ i := by rw [hk]; exact cntK_le l i
    rw [← hk] at hcn ⊢
    have HK := Aside0.mk hk
    clear hk
    obtain ⟨A, hA⟩ : ∃ A, A = atK a0 ds k := ⟨_, rfl⟩
    rw [← hA]
    have HA := Aside0.mk hA
    have HX0 := Aside0.mk hx0
    clear hx0 hA
    obtain ⟨d, hd⟩ : ∃ d, ds[k]? = some d := ⟨ds[k]'hcn, List.getElem?_eq_getElem hcn⟩
    obtain ⟨da, do_, dc', e_, _, _, _, hxd⟩ := (HD0.out.below HS.out.bel).some_ (by omega)
    injection e_ with e_ _ e2_
    subst e_
    subst e2_
    have ud := hxd k (.int .i64 d) (by simp [iV, hd])
    have k0 : (0 : Int) ≤ (k : Int) := by omega
    have k1 : (k : Int) < (ds.length : Int) := by omega
    have HDD := Aside0.mk hd
    have hdl := ((HD0.out.below HS.out.bel).lt (k := da) rfl).1
    clear hd hxd
    have c6 := blk_cell HS.out.k2 6
    simp only [List.getElem?_toArray, List.getElem?_cons_zero, List.getElem?_cons_succ] at c6
    have z6 : ∀ o, (wr.alloc o).cell? ⟨g2, 6, none⟩ = some (.slice (some ⟨da, do_, none⟩) ds.length dc) := fun o => (World.cell?_alloc_past _ _ _ h2l).trans c6
    have zd : ∀ o, (wr.alloc o).cell? ⟨da, do_ + k, none⟩ = some (.int .i64 d) := fun o => (World.cell?_alloc_past _ _ _ hdl).trans ud
    go_upto_region 11 with fail
    rw [← hgA] at XX ⊢
    have ez : (k : Int) + 1 = ((k + 1 : Nat) : Int) := by omega
    rw [ez]
    have hrep : rep2 F a0 l ds i = ((F + (i : Int)) % 65536, true, wrap64 (A + wrap64 (250 * d)), false, false) := by
     unfold rep2
     rw [show l.getD i 0 = x by simp [HX.out], if_pos HX0.out, ← HK.out, show atK a0 ds (k + 1) = wrap64 (atK a0 ds k + wrap64 (250 * ds.getD k 0)) from rfl, ← HA.out, show ds.getD k 0 = d by simp [HDD.out], decide_eq_true HX0.out]
    have hcnt : cntK l (i + 1) = k + 1 := by rw [cntK_yes HX.out HX0.out, ← HK.out]
    have hat : atK a0 ds (cntK l (i + 1)) = wrap64 (A + wrap64 (250 * d)) := by
     rw [hcnt, show atK a0 ds (k + 1) = wrap64 (atK a0 ds k + wrap64 (250 * ds.getD k 0)) from rfl, ← HA.out, show ds.getD k 0 = d by simp [HDD.out]]
    obtain ⟨V, hV⟩ : ∃ V, V = wrap64 (A + wrap64 (250 * d)) := ⟨_, rfl⟩
    rw [← hV] at hrep hat ⊢
    clear hV ez
    replace hrep := Aside0.mk hrep
    replace hcnt := Aside0.mk hcnt
    replace hat := Aside0.mk hat
    clear c2 c5 c6 z5 z6 zx zd ux ud HI hgA
    generalize wr.alloc (.cells #[.int .i64 ((F + (i : Int)) % 65536), .bool false, .int .i64 0, .bool false, .bool false] 58) = wA at *
    have a1 := blk_cell XX.out 1
    have a2 := blk_cell XX.out 2
    have f1 := blk_frozen XX.out 1
    have f2 := blk_frozen XX.out 2
    simp only [List.getElem?_toArray, List.getElem?_cons_zero, List.getElem?_cons_succ] at a1 a2
    go_upto_region 12 with fail
    clear a1 a2 f1 f2
    have e_ := blk_set (w := (wA.setCell ⟨gA, 1, none⟩ (.bool true))) (blk_set (w := wA) XX.out 1 (.bool true)) 2 (.int .i64 V)
    simp only [List.setIfInBounds_toArray, List.set_cons_zero, List.set_cons_succ] at e_
    have BB2 : Aside0 (Below wr.heap.size wr ((wA.setCell ⟨gA, 1, none⟩ (.bool true)).setCell ⟨gA, 2, none⟩ (.int .i64 V))) := ⟨(BB.out.setCell (p := ⟨gA, 1, none⟩) hA9 (.bool true)).setCell (p := ⟨gA, 2, none⟩) hA9 (.int .i64 V)⟩
    have XX2 : Aside0 (((wA.setCell ⟨gA, 1, none⟩ (.bool true)).setCell ⟨gA, 2, none⟩ (.int .i64 V)).heap[gA]? = some (.cells #[.int .i64 ((F + (i : Int)) % 65536), .bool true, .int .i64 V, .bool false, .bool false] 58 (0, 0))) := ⟨e_⟩
    clear e_ BB XX
    generalize ((wA.setCell ⟨gA, 1, none⟩ (.bool true)).setCell ⟨gA, 2, none⟩ (.int .i64 V)) = wx at *
    have BB := BB2
    have XX := XX2
    clear BB2 XX2
    have HSX := Aside0.mk (HS.out.step BB.out)
    have x0 := blk_cell XX.out 0
    simp only [List.getElem?_toArray, List.getElem?_cons_zero, List.getElem?_cons_succ] at x0
    have x1 := blk_cell XX.out 1
    simp only [List.getElem?_toArray, List.getElem?_cons_zero, List.getElem?_cons_succ] at x1
    have x2 := blk_cell XX.out 2
    simp only [List.getElem?_toArray, List.getElem?_cons_zero, List.getElem?_cons_succ] at x2
    have x3 := blk_cell XX.out 3
    simp only [List.getElem?_toArray, List.getElem?_cons_zero, List.getElem?_cons_succ] at x3
    have x4 := blk_cell XX.out 4
    simp only [List.getElem?_toArray, List.getElem?_cons_zero, List.getElem?_cons_succ] at x4
    have XS := Aside0.mk (HSX.out.step ((Below.refl wx.heap.size wx).alloc (Nat.le_refl _) (.cells #[.int .i64 ((F + (i : Int)) % 65536), .bool true, .int .i64 V, .bool false, .bool false] 58)))
    have HNX : Aside0 (∀ j u, ([.int .i64 ((F + (i : Int)) % 65536), .bool true, .int .i64 V, .bool false, .bool false] : List Value)[j]? = some u → (wx.alloc (.cells #[.int .i64 ((F + (i : Int)) % 65536), .bool true, .int .i64 V, .bool false, .bool false] 58)).cell? ((⟨wx.heap.size, 0, none⟩ : Addr).add j) = some u) := ⟨new_news wx [.int .i64 ((F + (i : Int)) % 65536), .bool true, .int .i64 V, .bool false, .bool false] 58⟩
    have HBX : Aside0 (w.heap.size ≤ (wx.alloc (.cells #[.int .i64 ((F + (i : Int)) % 65536), .bool true, .int .i64 V, .bool false, .bool false] 58)).heap.size) := ⟨XS.out.bel.size⟩
    obtain ⟨Av, cv, rfl, -, -⟩ := HS.out.rl.form
    go_wp2_with (at_builtin; go_loud (refine row_append (w := wx.alloc (.cells #[.int .i64 ((F + (i : Int)) % 65536), .bool true, .int .i64 V, .bool false, .bool false] 58)) rfl (.tmp 50) (.tmp 52) 23 rfl 58 Try.t58 (.agg #[.int .i64 0, .bool false, .int .i64 0, .bool false, .bool false]) 5 32 Try.underlying23 (by kernel_rfl) rfl rfl rfl (by decide) (by decide) w.heap.size (.slice Av X.length cv) X.length (repV X) (by rfl) XS.out.rl ⟨wx.heap.size, 0, none⟩ 1 1 [.int .i64 ((F + (i : Int)) % 65536), .bool true, .int .i64 V, .bool false, .bool false] (by rfl) rfl HNX.out (by simp [Value.oneCell']) (by simp only [maxLen]; omega) (by omega) HBX.out ?_); intro v1 w6 hR6 hG6 hO6 hF6; have TN := Aside0.mk (XS.out.push (x := (((F + (i : Int)) % 65536), true, V, false, false)) (by decide) hG6 hR6); clear hR6 hG6 hO6 hF6)
    rw [← hrep.out, HXX.out, ← reps2_succ] at TN
    exact ⟨⟨i + 1, by simp, by omega, by (rw [hat.out]; try simp), by (rw [hcnt.out]; try simp), TN⟩, by simp [intOf]; omega⟩
   ·have p1 : decide (0 < x) = false := decide_eq_false hx0
    have hrep : rep2 F a0 l ds i = ((F + (i : Int)) % 65536, false, 0, false, false) := by
     unfold rep2
     rw [show l.getD i 0 = x by simp [HX.out], if_neg hx0, p1]
    have hcnt : cntK l (i + 1) = cntK l i := cntK_no HX.out hx0
    have hat : atK a0 ds (cntK l (i + 1)) = atK a0 ds (cntK l i) := by rw [hcnt]
    replace hrep := Aside0.mk hrep
    replace hcnt := Aside0.mk hcnt
    replace hat := Aside0.mk hat
    have hki := cntK_le l i
    go_upto_region 12 with fail
    rw [← hgA] at XX ⊢
    clear c2 c5 z5 zx ux HI hgA
    generalize wr.alloc (.cells #[.int .i64 ((F + (i : Int)) % 65536), .bool false, .int .i64 0, .bool false, .bool false] 58) = wx at *
    have HSX := Aside0.mk (HS.out.step BB.out)
    have x0 := blk_cell XX.out 0
    simp only [List.getElem?_toArray, List.getElem?_cons_zero, List.getElem?_cons_succ] at x0
    have x1 := blk_cell XX.out 1
    simp only [List.getElem?_toArray, List.getElem?_cons_zero, List.getElem?_cons_succ] at x1
    have x2 := blk_cell XX.out 2
    simp only [List.getElem?_toArray, List.getElem?_cons_zero, List.getElem?_cons_succ] at x2
    have x3 := blk_cell XX.out 3
    simp only [List.getElem?_toArray, List.getElem?_cons_zero, List.getElem?_cons_succ] at x3
    have x4 := blk_cell XX.out 4
    simp only [List.getElem?_toArray, List.getElem?_cons_zero, List.getElem?_cons_succ] at x4
    have XS := Aside0.mk (HSX.out.step ((Below.refl wx.heap.size wx).alloc (Nat.le_refl _) (.cells #[.int .i64 ((F + (i : Int)) % 65536), .bool false, .int .i64 0, .bool false, .bool false] 58)))
    have HNX : Aside0 (∀ j u, ([.int .i64 ((F + (i : Int)) % 65536), .bool false, .int .i64 0, .bool false, .bool false] : List Value)[j]? = some u → (wx.alloc (.cells #[.int .i64 ((F + (i : Int)) % 65536), .bool false, .int .i64 0, .bool false, .bool false] 58)).cell? ((⟨wx.heap.size, 0, none⟩ : Addr).add j) = some u) := ⟨new_news wx [.int .i64 ((F + (i : Int)) % 65536), .bool false, .int .i64 0, .bool false, .bool false] 58⟩
    have HBX : Aside0 (w.heap.size ≤ (wx.alloc (.cells #[.int .i64 ((F + (i : Int)) % 65536), .bool false, .int .i64 0, .bool false, .bool false] 58)).heap.size) := ⟨XS.out.bel.size⟩
    obtain ⟨Av, cv, rfl, -, -⟩ := HS.out.rl.form
    go_wp2_with (at_builtin; go_loud (refine row_append (w := wx.alloc (.cells #[.int .i64 ((F + (i : Int)) % 65536), .bool false, .int .i64 0, .bool false, .bool false] 58)) rfl (.tmp 50) (.tmp 52) 23 rfl 58 Try.t58 (.agg #[.int .i64 0, .bool false, .int .i64 0, .bool false, .bool false]) 5 32 Try.underlying23 (by kernel_rfl) rfl rfl rfl (by decide) (by decide) w.heap.size (.slice Av X.length cv) X.length (repV X) (by rfl) XS.out.rl ⟨wx.heap.size, 0, none⟩ 1 1 [.int .i64 ((F + (i : Int)) % 65536), .bool false, .int .i64 0, .bool false, .bool false] (by rfl) rfl HNX.out (by simp [Value.oneCell']) (by simp only [maxLen]; omega) (by omega) HBX.out ?_); intro v1 w6 hR6 hG6 hO6 hF6; have TN := Aside0.mk (XS.out.push (x := (((F + (i : Int)) % 65536), false, 0, false, false)) (by decide) hG6 hR6); clear hR6 hG6 hO6 hF6)
    rw [← hrep.out, HXX.out, ← reps2_succ] at TN
    exact ⟨⟨i + 1, by simp, by omega, by (rw [hat.out]; try simp), by (rw [hcnt.out]; try simp), TN⟩, by simp [intOf]; omega⟩
  ·have q4 : decide ((i : Int) < (l.length : Int)) = false := decide_eq_false (by omega)
   have hil : i = l.length := by omega
   rw [hil] at HS
   clear hil
   go_wp2_with fail
   go_ret
   exact ⟨_, rfl, HS.out.rl, HS.out.bel⟩
end Go.Proofs.Ytgakmnholegbgaa.B
end
section
namespace Go.Proofs.Ytgakmnholegbgaa.B
open Go.RowKit Go.Proofs.YtgakmnholegbgaaW.PrintWords Go.Proofs.YtgakmnholegbgaaW.PrintLast Go.Proofs.YtgakmnholegbgaaW.PrintMore
set_option linter.unusedVariables false
set_option linter.unusedSimpArgs false
theorem PartsAt.drawn {w w' : World} {A : Option Addr} {l : List P3} (h : PartsAt w A l) (hd : Drawn0 w w') : PartsAt w' A l := h.below hd.below
def sumB (l : List P3) : Nat := (l.map fun x => x.2.2.size).sum
theorem sumB_total (l : List P3) : total l = 4 * l.length + sumB l := by
 induction l with
 | nil => rfl
 | cons x l ih => rw [total_cons, ih]; simp only [sizeP, sumB, List.map_cons, List.sum_cons, List.length_cons]; omega
theorem PartsAt.news {w : World} {ad : Addr} {l : List P3} (h : PartsAt w (some ad) l) : ∀ j u, (partV l)[j]? = some u → w.cell? (ad.add j) = some u := by
 intro j u hj
 have hlt : j < l.length * 3 := by
  rw [← partV_length]
  exact (List.getElem?_eq_some_iff.1 hj).1
 have hi : j / 3 < l.length := by omega
 obtain ⟨q0, q1, q2⟩ := partV_get (List.getElem?_eq_getElem hi)
 obtain ⟨ad', e, p0, p1, p2⟩ := h (j / 3) _ (List.getElem?_eq_getElem hi)
 injection e with e
 subst e
 have h3 : j = j / 3 * 3 ∨ j = j / 3 * 3 + 1 ∨ j = j / 3 * 3 + 2 := by omega
 rcases h3 with e | e | e
 ·rw [← e] at q0 p0
  rw [hj] at q0
  rw [p0, q0]
 ·rw [← add_field _ _ 1 (by omega), ← e] at p1
  rw [← e, hj] at q1
  rw [p1, q1]
 ·rw [← add_field _ _ 2 (by omega), ← e] at p2
  rw [← e, hj] at q2
  rw [p2, q2]
theorem PartsAt.grown {w w' : World} {A : Option Addr} {l : List P3} (h : PartsAt w A l) (hb : w.grownBy w' none) : PartsAt w' A l := h.below ⟨hb.os, hb.tape, hb.output, hb.size, fun k hk => hb.block k hk (by simp)⟩
end Go.Proofs.Ytgakmnholegbgaa.B
end
section
namespace Go.Proofs.Ytgakmnholegbgaa.B
open Go.RowKit Go.Proofs.YtgakmnholegbgaaW.PrintWords Go.Proofs.YtgakmnholegbgaaW.PrintLast Go.Proofs.YtgakmnholegbgaaW.PrintMore
set_option linter.unusedVariables false
set_option linter.unusedSimpArgs false
theorem byteN_rest (s : ByteArray) (a i : Nat) : byteN (s.extract a s.size) i = byteN s (a + i) := by
 unfold byteN bt
 simp only [Int.toNat_natCast, ByteArray.size_extract]
 by_cases h : a + i < s.size
 ·rw [dif_pos (by omega), dif_pos h]
  simp [ByteArray.getElem_extract]
 ·rw [dif_neg (by omega), dif_neg h]
theorem rest_extract (s : ByteArray) (a c d : Nat) (h : a + d ≤ s.size) : (s.extract a s.size).extract c d = s.extract (a + c) (a + d) := by
 rw [ByteArray.extract_extract, Nat.min_eq_left h]
theorem four_words (x y : Int) (hx : 0 ≤ x ∧ x < 256) (hy : 0 ≤ y ∧ y < 256) : wrap64 (4 * wrap64 (wrap64 (wrap64 x * 256) + wrap64 y)) = 4 * (x * 256 + y) := by
 have e1 : wrap64 x = x := by unfold wrap64; omega
 have e2 : wrap64 y = y := by unfold wrap64; omega
 have e3 : wrap64 (x * 256) = x * 256 := by unfold wrap64; omega
 have e4 : wrap64 (x * 256 + y) = x * 256 + y := by unfold wrap64; omega
 rw [e1, e2, e3, e4]
 unfold wrap64
 omega
theorem and_pad (V : Nat) (h : V < 256) : bits BinOp.and IntKind.u8 ((V : Int) / 32) 1 = ((V / 32 % 2 : Nat) : Int) := by
 have key : ∀ v < 8, bits BinOp.and IntKind.u8 ((v : Nat) : Int) 1 = ((v % 2 : Nat) : Int) := by decide
 have := key (V / 32) (by omega)
 rw [← this]
 rfl
theorem partErr_is {r : ByteArray} {V0 V1 N : Nat} (h0 : byteN r 0 = V0) (h1 : byteN r 1 = V1) (hp : partSize r = 4 + N) (hs : 4 + N ≤ r.size) :
  partErr r = if V0 / 64 % 4 ≠ 2 then 70 else if V1 < 192 ∨ 223 < V1 then 81 else if V0 / 32 % 2 = 1 ∧ ¬ (4 + N = r.size ∧ 4 ≤ padN r ∧ padN r % 4 = 0 ∧ padN r ≤ N) then 91 else 0 := by
 unfold partErr
 rw [if_neg (by omega), hp, if_neg (by omega), h0, h1, Nat.add_sub_cancel_left]
theorem padN_is {s r : ByteArray} {a N : Nat} (hr : r = s.extract a s.size) (hp : partSize r = 4 + N) (h : 0 < N) : padN r = byteN s (a + 4 + (N - 1)) := by
 unfold padN
 rw [hp, if_pos (by omega), hr, byteN_rest]
 congr 1
 omega
theorem padN_zero {r : ByteArray} (hp : partSize r = 4) : padN r = 0 := by
 unfold padN
 rw [hp, if_neg (by omega)]
theorem bt_extract (s : ByteArray) (a b i : Nat) (h : a + i < b) (hb : b ≤ s.size) : bt (s.extract a b) (i : Int) = (byteN s (a + i) : Int) := by
 rw [← byteN_bt s (a + i)]
 unfold bt
 simp only [Int.toNat_natCast, ByteArray.size_extract]
 rw [dif_pos (by omega), dif_pos (by omega)]
 simp [ByteArray.getElem_extract]
def QJ (w0 : World) (s : ByteArray) (v4 v5 : Value) (wr : World) : Prop := ∃ (a : Nat) (l : List P3), v5 = .int .i64 a ∧ Aside0 (RowV wr w0.heap.size 56 3 v4 l.length (partV l)) ∧ a ≤ s.size ∧ Aside0 (4 * l.length ≤ a) ∧ Aside0 (Behind s l (s.extract a s.size)) ∧ Aside0 (Below w0.heap.size w0 wr)
set_option maxHeartbeats 4000000 in
set_option maxRecDepth 100000 in
theorem rsplit_some (s : ByteArray) (w : World) (h0 : ¬ s.size = 0) (h1 : s.size ≤ 65536) : Calls Try.prog 12 #[.string s] w (SplitPost s w) := by
 have d1 : decide (65536 < (s.size : Int)) = false := decide_eq_false (by omega)
 have d2 : s.toList.isEmpty = false := by rw [str_empty_]; exact decide_eq_false h0
 go_enter Try.func12, Try.ntmps12
 go_wp2_with fail
 go_loopw [4, 5, 6, 7, 8, 9] (fun v4 v5 _ _ _ _ wr => QJ w s v4 v5 wr) (fun _ v _ _ _ _ _ => s.size - (intOf v).toNat)
 case atStart => exact ⟨0, [], rfl, ⟨RowV.nil _ _ _ _⟩, by omega, ⟨by simp⟩, ⟨by simpa using Behind.start s⟩, ⟨Below.refl _ _⟩⟩
 case round =>
  obtain ⟨a, l, rfl, hR, ha, hal, hBe, hB⟩ := hrel
  by_cases hlt : a < s.size
  ·obtain ⟨r, hr⟩ : ∃ r, r = s.extract a s.size := ⟨_, rfl⟩
   have hrs : r.size = s.size - a := by rw [hr]; simp
   have e0 : byteN r 0 = byteN s a := by rw [hr, byteN_rest]; rfl
   have e1 : byteN r 1 = byteN s (a + 1) := by rw [hr, byteN_rest]
   have e2 : byteN r 2 = byteN s (a + 2) := by rw [hr, byteN_rest]
   have e3 : byteN r 3 = byteN s (a + 3) := by rw [hr, byteN_rest]
   rw [← hr] at hBe
   have q1 : decide ((a : Int) < (s.size : Int)) = true := decide_eq_true (by omega)
   by_cases z1 : s.size - a < 4
   ·have q2 : decide ((s.size : Int) - (a : Int) < 4) = true := decide_eq_true (by omega)
    have HE := Aside0.mk (splitP_bad h1 h0 (hBe.out.bad (by omega) (show partErr r ≠ 0 by unfold partErr; rw [if_pos (by omega)]; decide)))
    have HE2 := Aside0.mk (show partErr r = 60 by unfold partErr; rw [if_pos (by omega)])
    go_wp2_with fail
    go_ret2
    exact ⟨_, by rw [HE.out, HE2.out]; rfl, by rw [HE.out]; exact RowV.nil _ _ _ _, hB.out⟩
   ·have q2 : decide ((s.size : Int) - (a : Int) < 4) = false := decide_eq_false (by omega)
    have hb2 := bt_at s ((a : Int) + 2)
    have hb3 := bt_at s ((a : Int) + 3)
    have i2 : (0 : Int) ≤ (a : Int) + 2 := by omega
    have i3 : (0 : Int) ≤ (a : Int) + 3 := by omega
    have j2 : (a : Int) + 2 < (s.size : Int) := by omega
    have j3 : (a : Int) + 3 < (s.size : Int) := by omega
    go_wp2_with fail
    go_quiet (fail)
    have hV0 := byteN_bt s a
    have hV1 := byteN_bt s (a + 1)
    have hV2 := byteN_bt s (a + 2)
    have hV3 := byteN_bt s (a + 3)
    have l0 := byteN_lt s a
    have l1 := byteN_lt s (a + 1)
    have l2 := byteN_lt s (a + 2)
    have l3 := byteN_lt s (a + 3)
    obtain ⟨V0, hv0⟩ : ∃ V, V = byteN s a := ⟨_, rfl⟩
    obtain ⟨V1, hv1⟩ : ∃ V, V = byteN s (a + 1) := ⟨_, rfl⟩
    obtain ⟨V2, hv2⟩ : ∃ V, V = byteN s (a + 2) := ⟨_, rfl⟩
    obtain ⟨V3, hv3⟩ : ∃ V, V = byteN s (a + 3) := ⟨_, rfl⟩
    rw [← hv0] at hV0 l0 e0
    rw [← hv1] at hV1 l1 e1
    rw [← hv2] at hV2 l2 e2
    rw [← hv3] at hV3 l3 e3
    obtain ⟨N, hN⟩ : ∃ N, N = 4 * (V2 * 256 + V3) := ⟨_, rfl⟩
    have eN : wrap64 (4 * wrap64 (wrap64 (wrap64 (bt s ((a : Int) + 2)) * 256) + wrap64 (bt s ((a : Int) + 3)))) = (N : Int) := by
     rw [four_words _ _ (by have := bt_range s ((a : Int) + 2); omega) (by have := bt_range s ((a : Int) + 3); omega)]
     rw [show (a : Int) + 2 = ((a + 2 : Nat) : Int) by omega, show (a : Int) + 3 = ((a + 3 : Nat) : Int) by omega, hV2, hV3, hN]
     omega
    rw [eN]
    have hps : partSize r = 4 + N := by unfold partSize; rw [e2, e3, hN]
    have hNl : N ≤ 262140 := by omega
    clear eN hb2 hb3 hN hv2 hv3 hV2 hV3 l2 l3 e2 e3 V2 V3 i2 i3 j2 j3
    by_cases z2 : s.size - a < 4 + N
    ·have q3 : decide ((s.size : Int) - (a : Int) - 4 < (N : Int)) = true := decide_eq_true (by omega)
     have hp : partErr r = 60 := by unfold partErr; rw [if_neg (by omega), if_pos (by omega)]
     have HE := Aside0.mk (splitP_bad h1 h0 (hBe.out.bad (by omega) (by rw [hp]; decide)))
     have HE2 := Aside0.mk hp
     clear hp
     go_wp2_with fail
     go_ret2
     exact ⟨_, by rw [HE.out, HE2.out]; rfl, by rw [HE.out]; exact RowV.nil _ _ _ _, pw_below_drewN hB.out nq⟩
    ·have q3 : decide ((s.size : Int) - (a : Int) - 4 < (N : Int)) = false := decide_eq_false (by omega)
     have hb0 : ∀ h : a < s.size, ((s[a]'h).toNat : Int) = (V0 : Int) := fun h => by
      have := bt_at s (a : Int) (by simpa using h)
      rw [hV0] at this
      simpa using this
     have hb1 : ∀ h : a + 1 < s.size, ((s[a + 1]'h).toNat : Int) = (V1 : Int) := fun h => by
      have := bt_at s ((a + 1 : Nat) : Int) (by simpa using h)
      rw [hV1] at this
      simpa using this
     have n0 : ((wr.drewN (nq + 1)).alloc (.cells #[.int .i64 0, .int .i64 0, .string { data := #[] }] 56)).cell? ⟨wr.heap.size, 0, none⟩ = some (.int .i64 0) := (World.cell?_alloc_mark (wr.drewN (nq + 1)) _ _ (0, 0) 0).trans rfl
     have f0 : ((wr.drewN (nq + 1)).alloc (.cells #[.int .i64 0, .int .i64 0, .string { data := #[] }] 56)).frozen? ⟨wr.heap.size, 0, none⟩ = false := (World.frozen?_alloc_mark (wr.drewN (nq + 1)) _ _ 0 0 0).trans rfl
     have n1 : ((wr.drewN (nq + 1)).alloc (.cells #[.int .i64 0, .int .i64 0, .string { data := #[] }] 56)).cell? ⟨wr.heap.size, 1, none⟩ = some (.int .i64 0) := (World.cell?_alloc_mark (wr.drewN (nq + 1)) _ _ (0, 0) 1).trans rfl
     have f1 : ((wr.drewN (nq + 1)).alloc (.cells #[.int .i64 0, .int .i64 0, .string { data := #[] }] 56)).frozen? ⟨wr.heap.size, 1, none⟩ = false := (World.frozen?_alloc_mark (wr.drewN (nq + 1)) _ _ 0 0 1).trans rfl
     have n2 : ((wr.drewN (nq + 1)).alloc (.cells #[.int .i64 0, .int .i64 0, .string { data := #[] }] 56)).cell? ⟨wr.heap.size, 2, none⟩ = some (.string { data := #[] }) := (World.cell?_alloc_mark (wr.drewN (nq + 1)) _ _ (0, 0) 2).trans rfl
     have f2 : ((wr.drewN (nq + 1)).alloc (.cells #[.int .i64 0, .int .i64 0, .string { data := #[] }] 56)).frozen? ⟨wr.heap.size, 2, none⟩ = false := (World.frozen?_alloc_mark (wr.drewN (nq + 1)) _ _ 0 0 2).trans rfl
     have i1 : (0 : Int) ≤ (a : Int) + 1 := by omega
     have j0 : (a : Int) < (s.size : Int) := by omega
     have j1 : (a : Int) + 1 < (s.size : Int) := by omega
     have k1 : (a : Int) + 4 ≤ (a : Int) + 4 + (N : Int) := by omega
     have k2 : (a : Int) + 4 + (N : Int) ≤ (s.size : Int) := by omega
     have HBn := Aside0.mk (pw_below_drewN hB.out nq)
     have HRn := Aside0.mk (hR.out.below (pw_below_drewN (Below.refl _ _) nq))
     have HPE := Aside0.mk (And.intro e0 (And.intro e1 hps))
     have HVV := Aside0.mk (And.intro hv0 (And.intro hv1 (And.intro hV0 hV1)))
     have HRR := Aside0.mk hr
     clear hv0 hv1 hr hV0 hV1 e0 e1 hps
     go_wp2_with fail
     go_region
     obtain ⟨B, hBB⟩ : ∃ B, B = s.extract (a + 4) (a + 4 + N) := ⟨_, rfl⟩
     rw [← hBB]
     obtain ⟨g, hg⟩ : ∃ g, g = wr.heap.size := ⟨_, rfl⟩
     have HW1 : ((((((wr.drewN (nq + 1)).alloc (Obj.cells #[Value.int IntKind.i64 0, Value.int IntKind.i64 0, Value.string { data := #[] }] 56)).setCell { block := wr.heap.size, off := 0 } (Value.int IntKind.i64 ((V0 : Int) % 32))).setCell { block := wr.heap.size, off := 1 } (Value.int IntKind.i64 (V1 : Int))).setCell { block := wr.heap.size, off := 2 } (Value.string B))).heap[g]? = some (.cells #[.int .i64 ((V0 : Int) % 32), .int .i64 (V1 : Int), .string B] 56 (0, 0)) := by
      have h := blk_set (blk_set (blk_set (blk_new (wr.drewN (nq + 1)) (Obj.cells #[Value.int IntKind.i64 0, Value.int IntKind.i64 0, Value.string { data := #[] }] 56)) 0 (.int .i64 ((V0 : Int) % 32))) 1 (.int .i64 (V1 : Int))) 2 (.string B)
      rw [hg]
      exact h
     have HBw : Below w.heap.size w ((((((wr.drewN (nq + 1)).alloc (Obj.cells #[Value.int IntKind.i64 0, Value.int IntKind.i64 0, Value.string { data := #[] }] 56)).setCell { block := wr.heap.size, off := 0 } (Value.int IntKind.i64 ((V0 : Int) % 32))).setCell { block := wr.heap.size, off := 1 } (Value.int IntKind.i64 (V1 : Int))).setCell { block := wr.heap.size, off := 2 } (Value.string B))) :=
      ((((pw_below_drewN hB.out (nq + 1)).alloc hB.out.size _).setCell (p := ⟨wr.heap.size, 0, none⟩) hB.out.size _).setCell (p := ⟨wr.heap.size, 1, none⟩) hB.out.size _).setCell (p := ⟨wr.heap.size, 2, none⟩) hB.out.size _
     have hRa : RowV ((wr.drewN (nq + 1)).alloc (Obj.cells #[Value.int IntKind.i64 0, Value.int IntKind.i64 0, Value.string { data := #[] }] 56)) w.heap.size 56 3 u4 l.length (partV l) := (hR.out.below (pw_below_drewN (Below.refl _ _) (nq + 1))).alloc _
     have hne : u4.ownBlock ≠ some wr.heap.size := fun e => by have := (hR.out.lt e).1; omega
     have HRw : RowV ((((((wr.drewN (nq + 1)).alloc (Obj.cells #[Value.int IntKind.i64 0, Value.int IntKind.i64 0, Value.string { data := #[] }] 56)).setCell { block := wr.heap.size, off := 0 } (Value.int IntKind.i64 ((V0 : Int) % 32))).setCell { block := wr.heap.size, off := 1 } (Value.int IntKind.i64 (V1 : Int))).setCell { block := wr.heap.size, off := 2 } (Value.string B))) w.heap.size 56 3 u4 l.length (partV l) :=
      ((hRa.setCell (p := ⟨wr.heap.size, 0, none⟩) _ hne).setCell (p := ⟨wr.heap.size, 1, none⟩) _ hne).setCell (p := ⟨wr.heap.size, 2, none⟩) _ hne
     have hgw : w.heap.size ≤ g := by rw [hg]; exact hB.out.size
     have hneg : u4.ownBlock ≠ some g := by rw [hg]; exact hne
     rw [← hg] at HW1 HBw HRw ⊢
     generalize ((((((wr.drewN (nq + 1)).alloc (Obj.cells #[Value.int IntKind.i64 0, Value.int IntKind.i64 0, Value.string { data := #[] }] 56)).setCell { block := g, off := 0 } (Value.int IntKind.i64 ((V0 : Int) % 32))).setCell { block := g, off := 1 } (Value.int IntKind.i64 (V1 : Int))).setCell { block := g, off := 2 } (Value.string B))) = WW at *
     have hpad := @padN_is s r a N HRR.out HPE.out.2.2
     have hpad0 := @padN_zero r
     have HK1 := Aside0.mk HW1
     have HB1 := Aside0.mk HBw
     have HR1 := Aside0.mk HRw
     have hgl := blk_lt HW1
     have u0 := blk_cell HW1 0
     have u1 := blk_cell HW1 1
     have u2 := blk_cell HW1 2
     have g2f := blk_frozen HW1 2
     simp only [List.getElem?_toArray, List.getElem?_cons_zero, List.getElem?_cons_succ] at u0 u1 u2
     have HBw := HB1
     have HPAD := Aside0.mk hpad
     have HPAD0 := Aside0.mk hpad0
     have hBs : B.size = N := by rw [hBB, ByteArray.size_extract]; omega
     obtain ⟨nl, hnl⟩ : ∃ n, n = l.length := ⟨_, rfl⟩
     rw [← hnl] at HR1
     have HN := Aside0.mk hnl
     have hnl9 : 4 * nl ≤ a := by have := hal.out; omega
     have HBB := Aside0.mk hBB
     clear hpad hpad0 HW1 HRw n0 n1 n2 f0 f1 f2 hRa hne hg hBB hnl hR
     by_cases z3 : V0 / 64 = 2
     ·have q4 : ((V0 : Int) / 64 != 2) = false := by simp; omega
      by_cases z4 : V1 < 192
      ·have q5 : decide ((V1 : Int) < 192) = true := decide_eq_true (by omega)
       have hp : partErr r = 81 := by rw [partErr_is HPE.out.1 HPE.out.2.1 HPE.out.2.2 (by omega)]; rw [if_neg (by omega), if_pos (by omega)]
       have HE := Aside0.mk (splitP_bad h1 h0 (hBe.out.bad (by omega) (by rw [hp]; decide)))
       have HE2 := Aside0.mk hp
       clear hp
       go_wp2_with fail
       go_ret2
       exact ⟨_, by rw [HE.out, HE2.out]; rfl, by rw [HE.out]; exact RowV.nil _ _ _ _, HBw.out⟩
      ·have q5 : decide ((V1 : Int) < 192) = false := decide_eq_false (by omega)
       by_cases z5 : 223 < V1
       ·have q6 : decide (223 < (V1 : Int)) = true := decide_eq_true (by omega)
        have hp : partErr r = 81 := by rw [partErr_is HPE.out.1 HPE.out.2.1 HPE.out.2.2 (by omega)]; rw [if_neg (by omega), if_pos (by omega)]
        have HE := Aside0.mk (splitP_bad h1 h0 (hBe.out.bad (by omega) (by rw [hp]; decide)))
        have HE2 := Aside0.mk hp
        clear hp
        go_wp2_with fail
        go_ret2
        exact ⟨_, by rw [HE.out, HE2.out]; rfl, by rw [HE.out]; exact RowV.nil _ _ _ _, HBw.out⟩
       ·have q6 : decide (223 < (V1 : Int)) = false := decide_eq_false (by omega)
        by_cases z6 : V0 / 32 % 2 = 1
        ·have q7 : (bits BinOp.and IntKind.u8 ((V0 : Int) / 32) 1 == 1) = true := by rw [and_pad V0 l0, z6]; rfl
         by_cases z7 : a + (4 + N) < s.size
         ·have q8 : decide ((a : Int) + (4 + (N : Int)) < (s.size : Int)) = true := decide_eq_true (by omega)
          have hp : partErr r = 91 := by rw [partErr_is HPE.out.1 HPE.out.2.1 HPE.out.2.2 (by omega)]; rw [if_neg (by omega), if_neg (by omega), if_pos ⟨z6, by omega⟩]
          have HE := Aside0.mk (splitP_bad h1 h0 (hBe.out.bad (by omega) (by rw [hp]; decide)))
          have HE2 := Aside0.mk hp
          clear hp
          go_wp2_with fail
          go_ret2
          exact ⟨_, by rw [HE.out, HE2.out]; rfl, by rw [HE.out]; exact RowV.nil _ _ _ _, HBw.out⟩
         ·have q8 : decide ((a : Int) + (4 + (N : Int)) < (s.size : Int)) = false := decide_eq_false (by omega)
          by_cases z8 : N = 0
          ·have q9 : ((N : Int) == 0) = true := by simp; omega
           have hp : partErr r = 91 := by rw [partErr_is HPE.out.1 HPE.out.2.1 HPE.out.2.2 (by omega)]; rw [if_neg (by omega), if_neg (by omega), if_pos ⟨z6, by have := HPAD0.out (by rw [HPE.out.2.2, z8]); omega⟩]
           have HE := Aside0.mk (splitP_bad h1 h0 (hBe.out.bad (by omega) (by rw [hp]; decide)))
           have HE2 := Aside0.mk hp
           clear hp
           go_wp2_with fail
           go_ret2
           exact ⟨_, by rw [HE.out, HE2.out]; rfl, by rw [HE.out]; exact RowV.nil _ _ _ _, HBw.out⟩
          ·have q9 : ((N : Int) == 0) = false := by simp; omega
           obtain ⟨K, hK⟩ : ∃ K, K = byteN s (a + 4 + (N - 1)) := ⟨_, rfl⟩
           have hKl : K < 256 := by rw [hK]; exact byteN_lt _ _
           have hpK : padN r = K := by rw [hK]; exact HPAD.out (by omega)
           have hbk : ∀ h : ((N : Int) - 1).toNat < B.size, ((B[((N : Int) - 1).toNat]'h).toNat : Int) = (K : Int) := fun h => by
            rw [bt_at B ((N : Int) - 1) h, show (N : Int) - 1 = ((N - 1 : Nat) : Int) by omega, HBB.out, bt_extract s _ _ _ (by omega) (by omega), hK]
           have hbk2 : ∀ h : N - 1 < B.size, ((B[N - 1]'h).toNat : Int) = (K : Int) := fun h => by
            have := hbk (by omega)
            rw [← this]
            congr 3
            omega
           have r1 : (0 : Int) ≤ (N : Int) - 1 := by omega
           have r2 : (N : Int) - 1 < (N : Int) := by omega
           have r3 : (N : Int) - 1 < (B.size : Int) := by omega
           have HKp := Aside0.mk hpK
           clear hK hpK
           by_cases z9 : K < 4
           ·have q10 : decide ((K : Int) < 4) = true := decide_eq_true (by omega)
            have hp : partErr r = 91 := by rw [partErr_is HPE.out.1 HPE.out.2.1 HPE.out.2.2 (by omega)]; rw [if_neg (by omega), if_neg (by omega), if_pos ⟨z6, by rw [HKp.out]; omega⟩]
            have HE := Aside0.mk (splitP_bad h1 h0 (hBe.out.bad (by omega) (by rw [hp]; decide)))
            have HE2 := Aside0.mk hp
            clear hp
            go_wp2_with fail
            go_ret2
            exact ⟨_, by rw [HE.out, HE2.out]; rfl, by rw [HE.out]; exact RowV.nil _ _ _ _, HBw.out⟩
           ·have q10 : decide ((K : Int) < 4) = false := decide_eq_false (by omega)
            by_cases z10 : K % 4 = 0
            ·have q11 : ((K : Int) % 4 != 0) = false := by simp; omega
             by_cases z11 : N < K
             ·have q12 : decide ((N : Int) < (K : Int)) = true := decide_eq_true (by omega)
              have hp : partErr r = 91 := by rw [partErr_is HPE.out.1 HPE.out.2.1 HPE.out.2.2 (by omega)]; rw [if_neg (by omega), if_neg (by omega), if_pos ⟨z6, by rw [HKp.out]; omega⟩]
              have HE := Aside0.mk (splitP_bad h1 h0 (hBe.out.bad (by omega) (by rw [hp]; decide)))
              have HE2 := Aside0.mk hp
              clear hp
              go_wp2_with fail
              go_ret2
              exact ⟨_, by rw [HE.out, HE2.out]; rfl, by rw [HE.out]; exact RowV.nil _ _ _ _, HBw.out⟩
             ·have q12 : decide ((N : Int) < (K : Int)) = false := decide_eq_false (by omega)
              have r4 : (0 : Int) ≤ (N : Int) - (K : Int) := by omega
              have r5 : (N : Int) - (K : Int) ≤ (N : Int) := by omega
              have r6 : (N : Int) - (K : Int) ≤ (B.size : Int) := by omega
              go_upto_region 27 with fail
              obtain ⟨Z, hZ⟩ : ∃ Z, Z = B.extract 0 (N - K) := ⟨_, rfl⟩
              rw [← hZ]
              have hk2 := blk_set HK1.out 2 (.string Z)
              have HKw : Aside0 ((WW.setCell ⟨g, 2, none⟩ (.string Z)).heap[g]? = some (.cells #[.int .i64 ((V0 : Int) % 32), .int .i64 (V1 : Int), .string Z] 56 (0, 0))) := ⟨hk2⟩
              have HRw := Aside0.mk (HR1.out.setCell (p := ⟨g, 2, none⟩) (.string Z) hneg)
              have HBw := Aside0.mk (HB1.out.setCell (p := ⟨g, 2, none⟩) hgw (.string Z))
              have HP0 := Aside0.mk (show partErr r = 0 by rw [partErr_is HPE.out.1 HPE.out.2.1 HPE.out.2.2 (by omega)]; rw [if_neg (by omega), if_neg (by omega), if_neg (fun h => h.2 ⟨by omega, by rw [HKp.out]; omega, by rw [HKp.out]; omega, by rw [HKp.out]; omega⟩)])
              have hbody : partBody r = Z := by
               unfold partBody
               rw [HPE.out.1, HPE.out.2.2, if_pos z6, HKp.out, HRR.out, rest_extract _ _ _ _ (by omega), hZ, HBB.out, ByteArray.extract_extract]
               congr 1 <;> omega
              have HZV := Aside0.mk (show partV l ++ [Value.int IntKind.i64 ((V0 : Int) % 32), Value.int IntKind.i64 (V1 : Int), Value.string Z] = partV (l ++ [partOf r]) by
               rw [partV_snoc]
               unfold partOf
               rw [hbody, HPE.out.1, HPE.out.2.1]
               rfl)
              clear hbody hZ
              clear hk2 u0 u1 u2 g2f
              generalize WW.setCell ⟨g, 2, none⟩ (.string Z) = WW at *
              have u0 := blk_cell HKw.out 0
              have u1 := blk_cell HKw.out 1
              have u2 := blk_cell HKw.out 2
              simp only [List.getElem?_toArray, List.getElem?_cons_zero, List.getElem?_cons_succ] at u0 u1 u2
              have HRy := Aside0.mk (HRw.out.alloc (.cells #[.int .i64 ((V0 : Int) % 32), .int .i64 (V1 : Int), .string Z] 56))
              have HBy := Aside0.mk (HBw.out.alloc (o := .cells #[.int .i64 ((V0 : Int) % 32), .int .i64 (V1 : Int), .string Z] 56) HBw.out.size)
              have HNX := Aside0.mk (new_news WW [.int .i64 ((V0 : Int) % 32), .int .i64 (V1 : Int), .string Z] 56)
              have HSy : Aside0 (w.heap.size ≤ (WW.alloc (.cells #[.int .i64 ((V0 : Int) % 32), .int .i64 (V1 : Int), .string Z] 56)).heap.size) := ⟨HBy.out.size⟩
              go_wp2_with (at_builtin; go_loud (refine row_append (w := WW.alloc (.cells #[.int .i64 ((V0 : Int) % 32), .int .i64 (V1 : Int), .string Z] 56)) rfl (.tmp 120) (.tmp 122) 36 rfl 56 Try.t56 (.agg #[.int .i64 0, .int .i64 0, .string { data := #[] }]) 3 32 Try.underlying36 (by kernel_rfl) rfl rfl rfl (by decide) (by decide) w.heap.size u4 nl (partV l) (by rfl) HRy.out ⟨WW.heap.size, 0, none⟩ 1 1 [.int .i64 ((V0 : Int) % 32), .int .i64 (V1 : Int), .string Z] (by rfl) rfl HNX.out (by simp [Value.oneCell']) (by simp only [maxLen]; omega) (by omega) HSy.out ?_); intro v6 w6 hR6 hG6 hO6 hF6; have HR6 := Aside0.mk hR6; have HB6 := Aside0.mk (below_new HBy.out hG6 (fun k hk => (HRy.out.lt hk).2.1)); clear hR6 hG6 hO6 hF6)
              refine ⟨⟨a + (4 + N), l ++ [partOf r], by simp, ⟨?_⟩, by omega, ⟨?_⟩, ⟨?_⟩, HB6⟩, ?_⟩
              ·have h := HR6.out
               rw [HZV.out] at h
               rw [List.length_append, ← HN.out]
               exact h
              ·rw [List.length_append]
               simp only [List.length_cons, List.length_nil]
               have := hal.out
               omega
              ·have h := hBe.out.next (by omega) HP0.out
               have e : restOf r = s.extract (a + (4 + N)) s.size := by
                unfold restOf
                rw [HPE.out.2.2, hrs, HRR.out, rest_extract _ _ _ _ (by omega)]
                congr 1
                omega
               rw [e] at h
               exact h
              ·simp [intOf]
               omega
            ·have q11 : ((K : Int) % 4 != 0) = true := by simp; omega
             have hp : partErr r = 91 := by rw [partErr_is HPE.out.1 HPE.out.2.1 HPE.out.2.2 (by omega)]; rw [if_neg (by omega), if_neg (by omega), if_pos ⟨z6, by rw [HKp.out]; omega⟩]
             have HE := Aside0.mk (splitP_bad h1 h0 (hBe.out.bad (by omega) (by rw [hp]; decide)))
             have HE2 := Aside0.mk hp
             clear hp
             go_wp2_with fail
             go_ret2
             exact ⟨_, by rw [HE.out, HE2.out]; rfl, by rw [HE.out]; exact RowV.nil _ _ _ _, HBw.out⟩
        ·have q7 : (bits BinOp.and IntKind.u8 ((V0 : Int) / 32) 1 == 1) = false := by rw [and_pad V0 l0, show V0 / 32 % 2 = 0 by omega]; rfl
         go_upto_region 27 with fail
         obtain ⟨Z, hZ⟩ : ∃ Z, Z = B := ⟨_, rfl⟩
         rw [← hZ]
         rw [← hZ] at HK1
         have HKw := HK1
         have HRw := HR1
         have HBw := HB1
         have HP0 := Aside0.mk (show partErr r = 0 by rw [partErr_is HPE.out.1 HPE.out.2.1 HPE.out.2.2 (by omega)]; rw [if_neg (by omega), if_neg (by omega), if_neg (fun h => z6 h.1)])
         have hbody : partBody r = Z := by
          unfold partBody
          rw [HPE.out.1, HPE.out.2.2, if_neg z6, HRR.out, rest_extract _ _ _ _ (by omega), hZ, HBB.out]
          congr 1 <;> omega
         have HZV := Aside0.mk (show partV l ++ [Value.int IntKind.i64 ((V0 : Int) % 32), Value.int IntKind.i64 (V1 : Int), Value.string Z] = partV (l ++ [partOf r]) by
          rw [partV_snoc]
          unfold partOf
          rw [hbody, HPE.out.1, HPE.out.2.1]
          rfl)
         clear hbody hZ
         clear u0 u1 u2 g2f
         have u0 := blk_cell HKw.out 0
         have u1 := blk_cell HKw.out 1
         have u2 := blk_cell HKw.out 2
         simp only [List.getElem?_toArray, List.getElem?_cons_zero, List.getElem?_cons_succ] at u0 u1 u2
         have HRy := Aside0.mk (HRw.out.alloc (.cells #[.int .i64 ((V0 : Int) % 32), .int .i64 (V1 : Int), .string Z] 56))
         have HBy := Aside0.mk (HBw.out.alloc (o := .cells #[.int .i64 ((V0 : Int) % 32), .int .i64 (V1 : Int), .string Z] 56) HBw.out.size)
         have HNX := Aside0.mk (new_news WW [.int .i64 ((V0 : Int) % 32), .int .i64 (V1 : Int), .string Z] 56)
         have HSy : Aside0 (w.heap.size ≤ (WW.alloc (.cells #[.int .i64 ((V0 : Int) % 32), .int .i64 (V1 : Int), .string Z] 56)).heap.size) := ⟨HBy.out.size⟩
         go_wp2_with (at_builtin; go_loud (refine row_append (w := WW.alloc (.cells #[.int .i64 ((V0 : Int) % 32), .int .i64 (V1 : Int), .string Z] 56)) rfl (.tmp 120) (.tmp 122) 36 rfl 56 Try.t56 (.agg #[.int .i64 0, .int .i64 0, .string { data := #[] }]) 3 32 Try.underlying36 (by kernel_rfl) rfl rfl rfl (by decide) (by decide) w.heap.size u4 nl (partV l) (by rfl) HRy.out ⟨WW.heap.size, 0, none⟩ 1 1 [.int .i64 ((V0 : Int) % 32), .int .i64 (V1 : Int), .string Z] (by rfl) rfl HNX.out (by simp [Value.oneCell']) (by simp only [maxLen]; omega) (by omega) HSy.out ?_); intro v6 w6 hR6 hG6 hO6 hF6; have HR6 := Aside0.mk hR6; have HB6 := Aside0.mk (below_new HBy.out hG6 (fun k hk => (HRy.out.lt hk).2.1)); clear hR6 hG6 hO6 hF6)
         refine ⟨⟨a + (4 + N), l ++ [partOf r], by simp, ⟨?_⟩, by omega, ⟨?_⟩, ⟨?_⟩, HB6⟩, ?_⟩
         ·have h := HR6.out
          rw [HZV.out] at h
          rw [List.length_append, ← HN.out]
          exact h
         ·rw [List.length_append]
          simp only [List.length_cons, List.length_nil]
          have := hal.out
          omega
         ·have h := hBe.out.next (by omega) HP0.out
          have e : restOf r = s.extract (a + (4 + N)) s.size := by
           unfold restOf
           rw [HPE.out.2.2, hrs, HRR.out, rest_extract _ _ _ _ (by omega)]
           congr 1
           omega
          rw [e] at h
          exact h
         ·simp [intOf]
          omega
     ·have q4 : ((V0 : Int) / 64 != 2) = true := by simp; omega
      have hp : partErr r = 70 := by rw [partErr_is HPE.out.1 HPE.out.2.1 HPE.out.2.2 (by omega)]; rw [if_pos (by omega)]
      have HE := Aside0.mk (splitP_bad h1 h0 (hBe.out.bad (by omega) (by rw [hp]; decide)))
      have HE2 := Aside0.mk hp
      clear hp
      go_wp2_with fail
      go_ret2
      exact ⟨_, by rw [HE.out, HE2.out]; rfl, by rw [HE.out]; exact RowV.nil _ _ _ _, HBw.out⟩
  ·have hae : a = s.size := by omega
   have q1 : decide ((a : Int) < (s.size : Int)) = false := decide_eq_false (by omega)
   have HE := Aside0.mk (splitP_ok h1 h0 (hBe.out.done (by rw [hae]; simp)))
   go_wp2_with fail
   go_ret2
   exact ⟨u4, by rw [HE.out]; rfl, by rw [HE.out]; exact hR.out, hB.out⟩
end Go.Proofs.Ytgakmnholegbgaa.B
end
