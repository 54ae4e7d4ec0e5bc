/- What the law leans on, part 2 of 4: plain laws and walks of this session, and words that a tool of the kit printed for it; what nothing leans on is left out. -/
import Derived.Test.YtgakmnholegbgaaRows
import Derived.Test.YtgakmnholegbgaaProg
import Derived.Below
import Derived.Deep.Draws
import Derived.Deep.AppendLies
import Derived.Maps.AppendAt
import Derived.OwnWalk
import Derived.Laws.BytesArg
import Derived.Laws.MakeOwn
import Derived.Laws.OwnMore
import Derived.Deep.OwnRows
import Derived.Tactics
import Derived.Lib.ConvBytes
import Derived.Laws.Slices
import Derived.WalkKit
import Derived.KernelRfl
import Derived.RowKit3
import Derived.Deep.LoopGhost
import Derived.Deep.QuietTactic
import Derived.BigQuiet
import Derived.WideLaws
import Derived.Deep.DeepCutAuto
import Derived.Deep.CutBlock
import Derived.Deep.RegionHeld3
import Derived.Laws.Rows
import Derived.Lib.AppendStr
import Derived.ArgAppend
import Derived.Laws.IdiomCopy
import Derived.OrdersHeld
import Derived.Laws.BitsLemmas
import Derived.RowKit
import Derived.Laws.StructEq
import Derived.BigRegion
import Derived.WalkMore
import Derived.ScopeJumps
import Derived.Outline
import Derived.Laws.Externs
import Derived.Lib.BitFns
import Derived.Deep.Light
import Derived.Lib.Mul64
import Derived.Lib.Strings
import Derived.Lib.Slices
import Derived.Lib.Small
import Derived.Lib.Walk
import Derived.Laws.Bits64b
import Derived.Lib.UnsafeStr
import Derived.Deep.RegionLaw
import Derived.Deep.RegionWith
import Derived.StillTailTactics
import Derived.Defers
import Derived.Recover
import Derived.Laws.Pointers
import Derived.WalkLawsBesides
import Derived.Laws.DeepStrings4
import Derived.Lib.SmallJoins
import Derived.Deep.Slices
import Derived.Deep.Fields
import Derived.ChangeSame
import Derived.ProofKit
import Derived.OpenShut
import Derived.ShutString
import Derived.ChangeOld
import Derived.SizedLaws
import Derived.Test.YtgakmnholegbgaaQ1a
section
namespace Go.Proofs.Ytgakmnholegbgaa.B
open Go.RowKit Go.Proofs.YtgakmnholegbgaaW.PrintWords Go.Proofs.YtgakmnholegbgaaW.PrintLast Go.Proofs.YtgakmnholegbgaaW.PrintMore
set_option linter.unusedVariables false
set_option linter.unusedSimpArgs false
theorem block_load (g2 : Nat) (tm : Array Value) (w : World) (u0 u1 u2 x : Value) (t2 : tm[2]?.getD undef = .pointer (some ⟨g2, 0, none⟩)) (t3 : tm[3]?.getD undef = x) (h : w.heap[g2]? = some (.cells #[u0, u1, u2] 49 (0, 0))) :
  (results Try.f61 tm).run Try.prog w = .ok (.tuple #[.agg #[u0, u1, u2], x]) w := by
 have c0 := blk_cell h 0
 have c1 := blk_cell h 1
 have c2 := blk_cell h 2
 simp only [List.getElem?_toArray, List.getElem?_cons_zero, List.getElem?_cons_succ] at c0 c1 c2
 simp [results, Try.results61, go_sem, t2, t3, c0, c1, c2]
theorem two_mod (n : Nat) : ((n : Int) % 2 == 1) = decide (n % 2 = 1) := by
 by_cases h : n % 2 = 1
 ·rw [decide_eq_true h, show (n : Int) % 2 = 1 by omega]; rfl
 ·rw [decide_eq_false h, show (n : Int) % 2 = 0 by omega]; rfl
def BlkPost (s : ByteArray) (a p : Nat) (w : World) (e : Ending) (w' : World) : Prop := ∃ v, e = .returned (.tuple #[v, .int .i64 (blockErr s a)]) ∧ w.grownBy w' (some p) ∧
 (blockErr s a = 0 → ∃ vm, v = .agg #[.int .u32 (blockOf s a).1, .int .i64 (blockOf s a).2.1, vm] ∧ RowV w' w.heap.size 45 3 vm (blockOf s a).2.2.length (metV (blockOf s a).2.2) ∧ RdIs w' p 146 s ((blockEnd s a : Nat) : Int) false) ∧ (blockErr s a ≠ 0 → v = .agg #[.int .u32 0, .int .i64 0, .slice none 0 0])
def BRel (s : ByteArray) (a p g2 g4 n : Nat) (S F : Int) (w : World) (v35 : Value) (wr : World) : Prop := ∃ (k : Nat) (A : Option Addr) (c : Nat), v35 = .int .i64 k ∧ k ≤ n ∧ Aside0 (∀ m ∈ metrs s (a + 64) k, metrOk m = true) ∧
 Aside0 (wr.heap[g2]? = some (.cells #[.int .u32 0, .int .i64 0, .slice none 0 0] 49 (0, 0))) ∧ Aside0 (wr.heap[g4]? = some (.cells #[.int .u32 S, .int .i64 F, .slice A k c] 49 (0, 0))) ∧
 Aside0 (RowV wr w.heap.size 45 3 (.slice A k c) k (metV (metrs s (a + 64) k))) ∧ Aside0 (RdIs wr p 146 s ((a + 64 + 16 * k : Nat) : Int) false) ∧ Aside0 (w.grownBy wr (some p))
set_option maxHeartbeats 8000000 in
set_option maxRecDepth 100000 in
theorem block_any (w : World) (p : Nat) (s : ByteArray) (a : Nat) (hRD : RdIs w p 146 s (a : Int) false) (hs : s.size ≤ 65536) (ha : a ≤ 8 * s.size) : Calls Try.prog 61 #[.pointer (some ⟨p, 0, none⟩)] w (BlkPost s a p w) := by
 have RD := Aside0.mk hRD
 have hpl := blk_lt hRD
 have HG := Aside0.mk (World.grownBy.refl w (some p))
 obtain ⟨E, hE⟩ : ∃ E, E = blockErr s a := ⟨_, rfl⟩
 have HE := Aside0.mk hE
 clear hRD hE
 go_enter Try.func61, Try.ntmps61
 go_wp2_with fail
 obtain ⟨g2, hg2⟩ : ∃ g, g = w.heap.size := ⟨_, rfl⟩
 have K2 : Aside0 ((w.alloc (.cells #[.int .u32 0, .int .i64 0, .slice none 0 0] 49)).heap[g2]? = some (.cells #[.int .u32 0, .int .i64 0, .slice none 0 0] 49 (0, 0))) := ⟨by rw [hg2]; exact blk_new w _⟩
 replace RD := Aside0.mk (gb_blk (World.grownBy_alloc w (.cells #[.int .u32 0, .int .i64 0, .slice none 0 0] 49) none) RD.out (fun k hk => by cases hk))
 replace HG := Aside0.mk (gb_alloc HG.out (.cells #[.int .u32 0, .int .i64 0, .slice none 0 0] 49))
 have nK2 : g2 ≠ p := by omega
 have hgw2 : w.heap.size ≤ g2 := by omega
 rw [← hg2]
 generalize w.alloc (.cells #[.int .u32 0, .int .i64 0, .slice none 0 0] 49) = w1 at *
 have HW := Aside0.mk hg2
 clear hg2
 refine (left_any w1 p s (a : Int) RD.out (by omega) (by omega) (by omega)).mono ?_
 rintro e w2 ⟨rfl, hd⟩
 replace RD := Aside0.mk (gb_blk (gb_drawn0 hd none) RD.out (fun k hk => by cases hk))
 replace K2 := Aside0.mk (gb_blk (gb_drawn0 hd none) K2.out (fun k hk => by cases hk))
 replace HG := Aside0.mk (gb_drawn HG.out hd)
 clear hd
 by_cases z1 : 8 * s.size - a < 96
 ·have q1 : decide (8 * (s.size : Int) - (a : Int) < 96) = true := decide_eq_true (by omega)
  have HEE : Aside0 (blockErr s a = 60) := ⟨by unfold blockErr; rw [if_pos z1]⟩
  have x0 := blk_cell K2.out 0
  have x1 := blk_cell K2.out 1
  have x2 := blk_cell K2.out 2
  simp only [List.getElem?_toArray, List.getElem?_cons_zero, List.getElem?_cons_succ] at x0 x1 x2
  have fx0 := blk_frozen K2.out 0
  have fx1 := blk_frozen K2.out 1
  have fx2 := blk_frozen K2.out 2
  go_wp2_with fail
  have z_ := blk_set (blk_set (blk_set K2.out 0 (.int .u32 0)) 1 (.int .i64 0)) 2 (.slice none 0 0)
  refine bodyPost_ret (block_load g2 _ _ _ _ _ _ rfl rfl z_) rfl ?_
  exact ⟨_, by rw [HEE.out]; rfl, gb_set (p := ⟨g2, 2, none⟩) (gb_set (p := ⟨g2, 1, none⟩) (gb_set (p := ⟨g2, 0, none⟩) HG.out hgw2 _) hgw2 _) hgw2 _, fun h => by rw [HEE.out] at h; exact absurd h (by decide), fun _ => rfl⟩
 have q1 : decide (8 * (s.size : Int) - (a : Int) < 96) = false := decide_eq_false (by omega)
 go_wp2_with fail
 refine (get_good w2 p s (a) 32 RD.out (by omega) (by omega) (by omega) (by omega)).mono ?_
 rintro e w3 ⟨rfl, hr_, hg_⟩
 replace RD : Aside0 (RdIs w3 p 146 s ((a + 32 : Nat) : Int) false) := ⟨by rw [show ((a + 32 : Nat) : Int) = ((a : Nat) : Int) + ((32 : Nat) : Int) by omega]; exact hr_⟩
 replace K2 := Aside0.mk (gb_blk hg_ K2.out (fun k hk => by injection hk with hk; subst hk; exact nK2))
 replace HG := Aside0.mk (only_trans HG.out hg_)
 clear hg_ hr_
 obtain ⟨V1, hV1⟩ : ∃ V, V = rdBits s (a) 32 := ⟨_, rfl⟩
 have lV1 : V1 < 2 ^ 32 := by rw [hV1]; exact rdBits_lt _ _ _
 rw [← hV1]
 have HV1 := Aside0.mk hV1
 clear hV1
 go_wp2_with fail
 refine (get_good w3 p s (a + 32) 16 RD.out (by omega) (by omega) (by omega) (by omega)).mono ?_
 rintro e w4 ⟨rfl, hr_, hg_⟩
 replace RD : Aside0 (RdIs w4 p 146 s ((a + 48 : Nat) : Int) false) := ⟨by rw [show ((a + 48 : Nat) : Int) = ((a + 32 : Nat) : Int) + ((16 : Nat) : Int) by omega]; exact hr_⟩
 replace K2 := Aside0.mk (gb_blk hg_ K2.out (fun k hk => by injection hk with hk; subst hk; exact nK2))
 replace HG := Aside0.mk (only_trans HG.out hg_)
 clear hg_ hr_
 obtain ⟨V2, hV2⟩ : ∃ V, V = rdBits s (a + 32) 16 := ⟨_, rfl⟩
 have lV2 : V2 < 2 ^ 16 := by rw [hV2]; exact rdBits_lt _ _ _
 rw [← hV2]
 have HV2 := Aside0.mk hV2
 clear hV2
 go_wp2_with fail
 have hl4 := HG.out.size
 have h2l := blk_lt K2.out
 obtain ⟨g4, hg4⟩ : ∃ g, g = w4.heap.size := ⟨_, rfl⟩
 have K4 : Aside0 ((w4.alloc (.cells #[.int .u32 (V1 : Int), .int .i64 (V2 : Int), .slice none 0 0] 49)).heap[g4]? = some (.cells #[.int .u32 (V1 : Int), .int .i64 (V2 : Int), .slice none 0 0] 49 (0, 0))) := ⟨by rw [hg4]; exact blk_new w4 _⟩
 replace RD := Aside0.mk (gb_blk (World.grownBy_alloc w4 (.cells #[.int .u32 (V1 : Int), .int .i64 (V2 : Int), .slice none 0 0] 49) none) RD.out (fun k hk => by cases hk))
 replace K2 := Aside0.mk (gb_blk (World.grownBy_alloc w4 (.cells #[.int .u32 (V1 : Int), .int .i64 (V2 : Int), .slice none 0 0] 49) none) K2.out (fun k hk => by cases hk))
 replace HG := Aside0.mk (gb_alloc HG.out (.cells #[.int .u32 (V1 : Int), .int .i64 (V2 : Int), .slice none 0 0] 49))
 have nK4 : g4 ≠ p := by omega
 have hgw4 : w.heap.size ≤ g4 := by omega
 have h24 : g2 ≠ g4 := by omega
 rw [← hg4]
 generalize w4.alloc (.cells #[.int .u32 (V1 : Int), .int .i64 (V2 : Int), .slice none 0 0] 49) = w5 at *
 clear hg4 hl4 h2l
 refine (get_good w5 p s (a + 48) 16 RD.out (by omega) (by omega) (by omega) (by omega)).mono ?_
 rintro e w6 ⟨rfl, hr_, hg_⟩
 replace RD : Aside0 (RdIs w6 p 146 s ((a + 64 : Nat) : Int) false) := ⟨by rw [show ((a + 64 : Nat) : Int) = ((a + 48 : Nat) : Int) + ((16 : Nat) : Int) by omega]; exact hr_⟩
 replace K2 := Aside0.mk (gb_blk hg_ K2.out (fun k hk => by injection hk with hk; subst hk; exact nK2))
 replace K4 := Aside0.mk (gb_blk hg_ K4.out (fun k hk => by injection hk with hk; subst hk; exact nK4))
 replace HG := Aside0.mk (only_trans HG.out hg_)
 clear hg_ hr_
 obtain ⟨n, hn⟩ : ∃ V, V = rdBits s (a + 48) 16 := ⟨_, rfl⟩
 have ln : n < 2 ^ 16 := by rw [hn]; exact rdBits_lt _ _ _
 rw [← hn]
 have Hn := Aside0.mk hn
 clear hn
 have Hn : Aside0 (rdBits s (a + 48) 16 = n) := ⟨Hn.out.symm⟩
 by_cases z2 : 4096 < n
 ·have q2 : decide (4096 < (n : Int)) = true := decide_eq_true (by omega)
  have HEE : Aside0 (blockErr s a = 3) := ⟨by unfold blockErr; rw [if_neg z1, Hn.out, if_pos z2]⟩
  have x0 := blk_cell K2.out 0
  have x1 := blk_cell K2.out 1
  have x2 := blk_cell K2.out 2
  simp only [List.getElem?_toArray, List.getElem?_cons_zero, List.getElem?_cons_succ] at x0 x1 x2
  have fx0 := blk_frozen K2.out 0
  have fx1 := blk_frozen K2.out 1
  have fx2 := blk_frozen K2.out 2
  go_wp2_with fail
  have z_ := blk_set (blk_set (blk_set K2.out 0 (.int .u32 0)) 1 (.int .i64 0)) 2 (.slice none 0 0)
  refine bodyPost_ret (block_load g2 _ _ _ _ _ _ rfl rfl z_) rfl ?_
  exact ⟨_, by rw [HEE.out]; rfl, gb_set (p := ⟨g2, 2, none⟩) (gb_set (p := ⟨g2, 1, none⟩) (gb_set (p := ⟨g2, 0, none⟩) HG.out hgw2 _) hgw2 _) hgw2 _, fun h => by rw [HEE.out] at h; exact absurd h (by decide), fun _ => rfl⟩
 have q2 : decide (4096 < (n : Int)) = false := decide_eq_false (by omega)
 go_wp2_with fail
 refine (left_any w6 p s ((a + 64 : Nat) : Int) RD.out (by omega) (by omega) (by omega)).mono ?_
 rintro e w7 ⟨rfl, hd⟩
 replace RD := Aside0.mk (gb_blk (gb_drawn0 hd none) RD.out (fun k hk => by cases hk))
 replace K2 := Aside0.mk (gb_blk (gb_drawn0 hd none) K2.out (fun k hk => by cases hk))
 replace K4 := Aside0.mk (gb_blk (gb_drawn0 hd none) K4.out (fun k hk => by cases hk))
 replace HG := Aside0.mk (gb_drawn HG.out hd)
 clear hd
 rw [show 8 * (s.size : Int) - ((a + 64 : Nat) : Int) = ((8 * s.size - (a + 64) : Nat) : Int) by omega]
 obtain ⟨L, hL⟩ : ∃ L, L = 8 * s.size - (a + 64) := ⟨_, rfl⟩
 rw [← hL]
 by_cases z3 : L < (n + 1) / 2 * 32 + 32
 ·have q3 : decide ((L : Int) < ((n : Int) + 1) / 2 * 32 + 32) = true := decide_eq_true (by omega)
  have HEE : Aside0 (blockErr s a = 60) := ⟨by unfold blockErr; rw [if_neg z1, Hn.out, if_neg z2, ← hL, if_pos z3]⟩
  clear hL
  have x0 := blk_cell K2.out 0
  have x1 := blk_cell K2.out 1
  have x2 := blk_cell K2.out 2
  simp only [List.getElem?_toArray, List.getElem?_cons_zero, List.getElem?_cons_succ] at x0 x1 x2
  have fx0 := blk_frozen K2.out 0
  have fx1 := blk_frozen K2.out 1
  have fx2 := blk_frozen K2.out 2
  go_wp2_with fail
  have z_ := blk_set (blk_set (blk_set K2.out 0 (.int .u32 0)) 1 (.int .i64 0)) 2 (.slice none 0 0)
  refine bodyPost_ret (block_load g2 _ _ _ _ _ _ rfl rfl z_) rfl ?_
  exact ⟨_, by rw [HEE.out]; rfl, gb_set (p := ⟨g2, 2, none⟩) (gb_set (p := ⟨g2, 1, none⟩) (gb_set (p := ⟨g2, 0, none⟩) HG.out hgw2 _) hgw2 _) hgw2 _, fun h => by rw [HEE.out] at h; exact absurd h (by decide), fun _ => rfl⟩
 have q3 : decide ((L : Int) < ((n : Int) + 1) / 2 * 32 + 32) = false := decide_eq_false (by omega)
 have hroom : a + 64 + (n + 1) / 2 * 32 + 32 ≤ 8 * s.size := by omega
 have HL := Aside0.mk hL
 clear hL
 go_wp2_with fail
 go_loopw [6, 35] (fun _ v35 wr => BRel s a p g2 g4 n V1 V2 w v35 wr) (fun _ v _ => n - (intOf v).toNat)
 case atStart => exact ⟨0, none, 0, rfl, by omega, ⟨fun m hm => by simp [metrs] at hm⟩, K2, K4, ⟨by simpa [metrs, metV] using RowV.nil w7 w.heap.size 45 3⟩, ⟨RD.out⟩, HG⟩
 case round =>
  clear RD K2 K4 HG
  obtain ⟨k, A, c, rfl, hk, hOk, K2, K4, HR, RD, HG⟩ := hrel
  by_cases hlt : k < n
  ·have q4 : decide ((k : Int) < (n : Int)) = true := decide_eq_true (by omega)
   go_wp2_with fail
   refine (get_good wr p s (a + 64 + 16 * k) 1 RD.out (by omega) (by omega) (by omega) (by omega)).mono ?_
   rintro e y1 ⟨rfl, hr_, hg_⟩
   replace HR := Aside0.mk (HR.out.gb hg_ (fun k hk => by injection hk with hk; subst hk; exact HR.out.ne RD.out (by decide)))
   replace RD : Aside0 (RdIs y1 p 146 s ((a + 64 + 16 * k + 1 : Nat) : Int) false) := ⟨by rw [show ((a + 64 + 16 * k + 1 : Nat) : Int) = ((a + 64 + 16 * k : Nat) : Int) + ((1 : Nat) : Int) by omega]; exact hr_⟩
   replace K2 := Aside0.mk (gb_blk hg_ K2.out (fun k hk => by injection hk with hk; subst hk; exact nK2))
   replace K4 := Aside0.mk (gb_blk hg_ K4.out (fun k hk => by injection hk with hk; subst hk; exact nK4))
   replace HG := Aside0.mk (only_trans HG.out hg_)
   clear hg_ hr_
   obtain ⟨G, hG⟩ : ∃ V, V = rdBits s (a + 64 + 16 * k) 1 := ⟨_, rfl⟩
   have lG : G < 2 ^ 1 := by rw [hG]; exact rdBits_lt _ _ _
   rw [← hG]
   have HG_ := Aside0.mk hG
   clear hG
   go_wp2_with fail
   refine (get_good y1 p s (a + 64 + 16 * k + 1) 2 RD.out (by omega) (by omega) (by omega) (by omega)).mono ?_
   rintro e y2 ⟨rfl, hr_, hg_⟩
   replace HR := Aside0.mk (HR.out.gb hg_ (fun k hk => by injection hk with hk; subst hk; exact HR.out.ne RD.out (by decide)))
   replace RD : Aside0 (RdIs y2 p 146 s ((a + 64 + 16 * k + 3 : Nat) : Int) false) := ⟨by rw [show ((a + 64 + 16 * k + 3 : Nat) : Int) = ((a + 64 + 16 * k + 1 : Nat) : Int) + ((2 : Nat) : Int) by omega]; exact hr_⟩
   replace K2 := Aside0.mk (gb_blk hg_ K2.out (fun k hk => by injection hk with hk; subst hk; exact nK2))
   replace K4 := Aside0.mk (gb_blk hg_ K4.out (fun k hk => by injection hk with hk; subst hk; exact nK4))
   replace HG := Aside0.mk (only_trans HG.out hg_)
   clear hg_ hr_
   obtain ⟨C, hC⟩ : ∃ V, V = rdBits s (a + 64 + 16 * k + 1) 2 := ⟨_, rfl⟩
   have lC : C < 2 ^ 2 := by rw [hC]; exact rdBits_lt _ _ _
   rw [← hC]
   have HC := Aside0.mk hC
   clear hC
   go_wp2_with fail
   refine (get_good y2 p s (a + 64 + 16 * k + 3) 13 RD.out (by omega) (by omega) (by omega) (by omega)).mono ?_
   rintro e y3 ⟨rfl, hr_, hg_⟩
   replace HR := Aside0.mk (HR.out.gb hg_ (fun k hk => by injection hk with hk; subst hk; exact HR.out.ne RD.out (by decide)))
   replace RD : Aside0 (RdIs y3 p 146 s ((a + 64 + 16 * (k + 1) : Nat) : Int) false) := ⟨by rw [show ((a + 64 + 16 * (k + 1) : Nat) : Int) = ((a + 64 + 16 * k + 3 : Nat) : Int) + ((13 : Nat) : Int) by omega]; exact hr_⟩
   replace K2 := Aside0.mk (gb_blk hg_ K2.out (fun k hk => by injection hk with hk; subst hk; exact nK2))
   replace K4 := Aside0.mk (gb_blk hg_ K4.out (fun k hk => by injection hk with hk; subst hk; exact nK4))
   replace HG := Aside0.mk (only_trans HG.out hg_)
   clear hg_ hr_
   obtain ⟨O, hO⟩ : ∃ V, V = rdBits s (a + 64 + 16 * k + 3) 13 := ⟨_, rfl⟩
   have lO : O < 2 ^ 13 := by rw [hO]; exact rdBits_lt _ _ _
   rw [← hO]
   have HO := Aside0.mk hO
   clear hO
   have HM : Aside0 (metr s (a + 64 + 16 * k) = (decide (G = 1), (C : Int), (O : Int))) := ⟨by unfold metr; rw [← HG_.out, ← HC.out, ← HO.out]⟩
   have bitG : G = 0 ∨ G = 1 := by omega
   have hpl2 := blk_lt RD.out
   have h4l := blk_lt K4.out
   have h2l := blk_lt K2.out
   rcases bitG with hG0 | hG1
   ·have qG : ((G : Int) == 1) = false := by rw [hG0]; rfl
    have HG0 := Aside0.mk hG0
    clear hG0
    by_cases zC : C = 0
    ·have qC : ((C : Int) != 0) = false := by rw [zC]; rfl
     have ZC := Aside0.mk zC
     clear zC
     by_cases zO : O = 0
     ·have qO : ((O : Int) != 0) = false := by rw [zO]; rfl
      have ZO := Aside0.mk zO
      clear zO
      have HMB : Aside0 (metr s (a + 64 + 16 * k) = (false, (C : Int), (O : Int))) := ⟨by rw [HM.out, HG0.out]; rfl⟩
      have HOKM : Aside0 (metrOk (metr s (a + 64 + 16 * k)) = true) := ⟨by rw [HMB.out]; simp [metrOk, ZC.out, ZO.out]⟩
      have X4 := Aside0.mk (gb_blk (World.grownBy_alloc (y3.alloc (.cells #[.bool false, .int .i64 (C : Int), .int .i64 (O : Int)] 45)) (.cells #[.bool false, .int .i64 (C : Int), .int .i64 (O : Int)] 45) none) (gb_blk (World.grownBy_alloc y3 (.cells #[.bool false, .int .i64 (C : Int), .int .i64 (O : Int)] 45) none) K4.out (fun k hk => by cases hk)) (fun k hk => by cases hk))
      have X2 := Aside0.mk (gb_blk (World.grownBy_alloc (y3.alloc (.cells #[.bool false, .int .i64 (C : Int), .int .i64 (O : Int)] 45)) (.cells #[.bool false, .int .i64 (C : Int), .int .i64 (O : Int)] 45) none) (gb_blk (World.grownBy_alloc y3 (.cells #[.bool false, .int .i64 (C : Int), .int .i64 (O : Int)] 45) none) K2.out (fun k hk => by cases hk)) (fun k hk => by cases hk))
      have XD := Aside0.mk (gb_blk (World.grownBy_alloc (y3.alloc (.cells #[.bool false, .int .i64 (C : Int), .int .i64 (O : Int)] 45)) (.cells #[.bool false, .int .i64 (C : Int), .int .i64 (O : Int)] 45) none) (gb_blk (World.grownBy_alloc y3 (.cells #[.bool false, .int .i64 (C : Int), .int .i64 (O : Int)] 45) none) RD.out (fun k hk => by cases hk)) (fun k hk => by cases hk))
      have XR := Aside0.mk ((HR.out.alloc (.cells #[.bool false, .int .i64 (C : Int), .int .i64 (O : Int)] 45)).alloc (.cells #[.bool false, .int .i64 (C : Int), .int .i64 (O : Int)] 45))
      have XG := Aside0.mk (gb_alloc (gb_alloc HG.out (.cells #[.bool false, .int .i64 (C : Int), .int .i64 (O : Int)] 45)) (.cells #[.bool false, .int .i64 (C : Int), .int .i64 (O : Int)] 45))
      have HNX : Aside0 (∀ j u, ([.bool false, .int .i64 (C : Int), .int .i64 (O : Int)] : List Value)[j]? = some u → ((y3.alloc (.cells #[.bool false, .int .i64 (C : Int), .int .i64 (O : Int)] 45)).alloc (.cells #[.bool false, .int .i64 (C : Int), .int .i64 (O : Int)] 45)).cell? ((⟨y3.heap.size + 1, 0, none⟩ : Addr).add j) = some u) := ⟨by
       have h := new_news (y3.alloc (.cells #[.bool false, .int .i64 (C : Int), .int .i64 (O : Int)] 45)) [.bool false, .int .i64 (C : Int), .int .i64 (O : Int)] 45
       simpa using h⟩
      have HBX : Aside0 (w.heap.size ≤ ((y3.alloc (.cells #[.bool false, .int .i64 (C : Int), .int .i64 (O : Int)] 45)).alloc (.cells #[.bool false, .int .i64 (C : Int), .int .i64 (O : Int)] 45)).heap.size) := ⟨XG.out.size⟩
      have c2 := blk_cell K4.out 2
      simp only [List.getElem?_toArray, List.getElem?_cons_zero, List.getElem?_cons_succ] at c2
      go_wp2_with (at_builtin; go_loud (refine row_append (w := ((y3.alloc (.cells #[.bool false, .int .i64 (C : Int), .int .i64 (O : Int)] 45)).alloc (.cells #[.bool false, .int .i64 (C : Int), .int .i64 (O : Int)] 45))) rfl (.tmp 62) (.tmp 64) 46 rfl 45 Try.t45 (.agg #[.bool false, .int .i64 0, .int .i64 0]) 3 24 Try.underlying46 (by kernel_rfl) rfl rfl rfl (by decide) (by decide) w.heap.size (.slice A k c) k (metV (metrs s (a + 64) k)) (by rfl) XR.out ⟨y3.heap.size + 1, 0, none⟩ 1 1 [.bool false, .int .i64 (C : Int), .int .i64 (O : Int)] (by rfl) rfl HNX.out (by simp [Value.oneCell']) (by simp only [maxLen]; omega) (by omega) HBX.out ?_); intro v1 w6 hR6 hG6 hO6 hF6; obtain ⟨g6, o6, c6, rfl, hb6, hn6, hc6, hx6⟩ := hR6.some_ (by omega); have X4' := gb_blkR hG6 XR.out X4.out (by decide); have X2' := Aside0.mk (gb_blkR hG6 XR.out X2.out (by decide)); have XD' := Aside0.mk (gb_blkR hG6 XR.out XD.out (by decide)); have XG' := Aside0.mk (gb_row XG.out hG6 (fun k hk => (XR.out.lt hk).2.1)); have u2 := blk_cell X4' 2; have u2f := blk_frozen X4' 2; simp only [List.getElem?_toArray, List.getElem?_cons_zero, List.getElem?_cons_succ] at u2; have HR6 := Aside0.mk hR6; have HX4 := Aside0.mk X4'; clear X4' hx6 hR6 hG6 hO6 hF6 c2)
      have K4n := blk_set HX4.out 2 (.slice (some ⟨g6, o6, none⟩) (k + 1) c6)
      have n4 : ∀ j, (Value.slice (some ⟨g6, o6, none⟩) (k + 1) c6).ownBlock = some j → j ≠ g4 := fun j hj e => HR6.out.ne HX4.out (by decide) (by rw [← e]; exact hj)
      refine ⟨⟨k + 1, some ⟨g6, o6, none⟩, c6, by simp, by omega, ⟨?_⟩, ⟨?_⟩, ⟨?_⟩, ⟨?_⟩, ⟨?_⟩, ⟨?_⟩⟩, by simp [intOf]; omega⟩
      ·intro m hm
       rw [metrs_succ] at hm
       rcases List.mem_append.1 hm with h | h
       ·exact hOk.out m h
       ·rw [List.mem_singleton.1 h]; exact HOKM.out
      ·exact (Below.heap_setCell w6 (⟨g4, 2, none⟩ : Addr) _ g2 h24).trans X2'.out
      ·refine K4n.trans ?_
       simp
      ·rw [metrs_succ, metV_snoc, HMB.out]
       exact HR6.out.setCell (p := ⟨g4, 2, none⟩) _ (fun e => n4 g4 e rfl)
      ·exact (Below.heap_setCell w6 (⟨g4, 2, none⟩ : Addr) _ p nK4.symm).trans XD'.out
      ·exact gb_set (p := ⟨g4, 2, none⟩) XG'.out hgw4 _
     ·have qO : ((O : Int) != 0) = true := by simp; omega
      have HEE : Aside0 (blockErr s a = 70) := ⟨blockErr_70 z1 Hn.out z2 (by rw [← HL.out]; exact z3) hlt (by rw [HM.out, HG0.out]; simp [metrOk]; have := ZC.out; omega)⟩
      have x0 := blk_cell K2.out 0
      have x1 := blk_cell K2.out 1
      have x2 := blk_cell K2.out 2
      simp only [List.getElem?_toArray, List.getElem?_cons_zero, List.getElem?_cons_succ] at x0 x1 x2
      have fx0 := blk_frozen K2.out 0
      have fx1 := blk_frozen K2.out 1
      have fx2 := blk_frozen K2.out 2
      go_wp2_with fail
      have z_ := gb_blk (World.grownBy_alloc (((y3.setCell ⟨g2, 0, none⟩ (.int .u32 0)).setCell ⟨g2, 1, none⟩ (.int .i64 0)).setCell ⟨g2, 2, none⟩ (.slice none 0 0)) (.cells #[.bool false, .int .i64 (C : Int), .int .i64 (O : Int)] 45) none) (blk_set (blk_set (blk_set K2.out 0 (.int .u32 0)) 1 (.int .i64 0)) 2 (.slice none 0 0)) (fun k hk => by cases hk)
      refine bodyPost_ret (block_load g2 _ _ _ _ _ _ rfl rfl z_) rfl ?_
      exact ⟨_, by rw [HEE.out]; rfl, gb_alloc (gb_set (p := ⟨g2, 2, none⟩) (gb_set (p := ⟨g2, 1, none⟩) (gb_set (p := ⟨g2, 0, none⟩) HG.out hgw2 _) hgw2 _) hgw2 _) _, fun h => by rw [HEE.out] at h; exact absurd h (by decide), fun _ => rfl⟩
    ·have qC : ((C : Int) != 0) = true := by simp; omega
     have HEE : Aside0 (blockErr s a = 70) := ⟨blockErr_70 z1 Hn.out z2 (by rw [← HL.out]; exact z3) hlt (by rw [HM.out, HG0.out]; simp [metrOk]; omega)⟩
     have x0 := blk_cell K2.out 0
     have x1 := blk_cell K2.out 1
     have x2 := blk_cell K2.out 2
     simp only [List.getElem?_toArray, List.getElem?_cons_zero, List.getElem?_cons_succ] at x0 x1 x2
     have fx0 := blk_frozen K2.out 0
     have fx1 := blk_frozen K2.out 1
     have fx2 := blk_frozen K2.out 2
     go_wp2_with fail
     have z_ := gb_blk (World.grownBy_alloc (((y3.setCell ⟨g2, 0, none⟩ (.int .u32 0)).setCell ⟨g2, 1, none⟩ (.int .i64 0)).setCell ⟨g2, 2, none⟩ (.slice none 0 0)) (.cells #[.bool false, .int .i64 (C : Int), .int .i64 (O : Int)] 45) none) (blk_set (blk_set (blk_set K2.out 0 (.int .u32 0)) 1 (.int .i64 0)) 2 (.slice none 0 0)) (fun k hk => by cases hk)
     refine bodyPost_ret (block_load g2 _ _ _ _ _ _ rfl rfl z_) rfl ?_
     exact ⟨_, by rw [HEE.out]; rfl, gb_alloc (gb_set (p := ⟨g2, 2, none⟩) (gb_set (p := ⟨g2, 1, none⟩) (gb_set (p := ⟨g2, 0, none⟩) HG.out hgw2 _) hgw2 _) hgw2 _) _, fun h => by rw [HEE.out] at h; exact absurd h (by decide), fun _ => rfl⟩
   ·have qG : ((G : Int) == 1) = true := by rw [hG1]; rfl
    have HG1 := Aside0.mk hG1
    clear hG1
    have HMB : Aside0 (metr s (a + 64 + 16 * k) = (true, (C : Int), (O : Int))) := ⟨by rw [HM.out, HG1.out]; rfl⟩
    have HOKM : Aside0 (metrOk (metr s (a + 64 + 16 * k)) = true) := ⟨by rw [HMB.out]; rfl⟩
    have X4 := Aside0.mk (gb_blk (World.grownBy_alloc (y3.alloc (.cells #[.bool true, .int .i64 (C : Int), .int .i64 (O : Int)] 45)) (.cells #[.bool true, .int .i64 (C : Int), .int .i64 (O : Int)] 45) none) (gb_blk (World.grownBy_alloc y3 (.cells #[.bool true, .int .i64 (C : Int), .int .i64 (O : Int)] 45) none) K4.out (fun k hk => by cases hk)) (fun k hk => by cases hk))
    have X2 := Aside0.mk (gb_blk (World.grownBy_alloc (y3.alloc (.cells #[.bool true, .int .i64 (C : Int), .int .i64 (O : Int)] 45)) (.cells #[.bool true, .int .i64 (C : Int), .int .i64 (O : Int)] 45) none) (gb_blk (World.grownBy_alloc y3 (.cells #[.bool true, .int .i64 (C : Int), .int .i64 (O : Int)] 45) none) K2.out (fun k hk => by cases hk)) (fun k hk => by cases hk))
    have XD := Aside0.mk (gb_blk (World.grownBy_alloc (y3.alloc (.cells #[.bool true, .int .i64 (C : Int), .int .i64 (O : Int)] 45)) (.cells #[.bool true, .int .i64 (C : Int), .int .i64 (O : Int)] 45) none) (gb_blk (World.grownBy_alloc y3 (.cells #[.bool true, .int .i64 (C : Int), .int .i64 (O : Int)] 45) none) RD.out (fun k hk => by cases hk)) (fun k hk => by cases hk))
    have XR := Aside0.mk ((HR.out.alloc (.cells #[.bool true, .int .i64 (C : Int), .int .i64 (O : Int)] 45)).alloc (.cells #[.bool true, .int .i64 (C : Int), .int .i64 (O : Int)] 45))
    have XG := Aside0.mk (gb_alloc (gb_alloc HG.out (.cells #[.bool true, .int .i64 (C : Int), .int .i64 (O : Int)] 45)) (.cells #[.bool true, .int .i64 (C : Int), .int .i64 (O : Int)] 45))
    have HNX : Aside0 (∀ j u, ([.bool true, .int .i64 (C : Int), .int .i64 (O : Int)] : List Value)[j]? = some u → ((y3.alloc (.cells #[.bool true, .int .i64 (C : Int), .int .i64 (O : Int)] 45)).alloc (.cells #[.bool true, .int .i64 (C : Int), .int .i64 (O : Int)] 45)).cell? ((⟨y3.heap.size + 1, 0, none⟩ : Addr).add j) = some u) := ⟨by
     have h := new_news (y3.alloc (.cells #[.bool true, .int .i64 (C : Int), .int .i64 (O : Int)] 45)) [.bool true, .int .i64 (C : Int), .int .i64 (O : Int)] 45
     simpa using h⟩
    have HBX : Aside0 (w.heap.size ≤ ((y3.alloc (.cells #[.bool true, .int .i64 (C : Int), .int .i64 (O : Int)] 45)).alloc (.cells #[.bool true, .int .i64 (C : Int), .int .i64 (O : Int)] 45)).heap.size) := ⟨XG.out.size⟩
    have c2 := blk_cell K4.out 2
    simp only [List.getElem?_toArray, List.getElem?_cons_zero, List.getElem?_cons_succ] at c2
    go_wp2_with (at_builtin; go_loud (refine row_append (w := ((y3.alloc (.cells #[.bool true, .int .i64 (C : Int), .int .i64 (O : Int)] 45)).alloc (.cells #[.bool true, .int .i64 (C : Int), .int .i64 (O : Int)] 45))) rfl (.tmp 62) (.tmp 64) 46 rfl 45 Try.t45 (.agg #[.bool false, .int .i64 0, .int .i64 0]) 3 24 Try.underlying46 (by kernel_rfl) rfl rfl rfl (by decide) (by decide) w.heap.size (.slice A k c) k (metV (metrs s (a + 64) k)) (by rfl) XR.out ⟨y3.heap.size + 1, 0, none⟩ 1 1 [.bool true, .int .i64 (C : Int), .int .i64 (O : Int)] (by rfl) rfl HNX.out (by simp [Value.oneCell']) (by simp only [maxLen]; omega) (by omega) HBX.out ?_); intro v1 w6 hR6 hG6 hO6 hF6; obtain ⟨g6, o6, c6, rfl, hb6, hn6, hc6, hx6⟩ := hR6.some_ (by omega); have X4' := gb_blkR hG6 XR.out X4.out (by decide); have X2' := Aside0.mk (gb_blkR hG6 XR.out X2.out (by decide)); have XD' := Aside0.mk (gb_blkR hG6 XR.out XD.out (by decide)); have XG' := Aside0.mk (gb_row XG.out hG6 (fun k hk => (XR.out.lt hk).2.1)); have u2 := blk_cell X4' 2; have u2f := blk_frozen X4' 2; simp only [List.getElem?_toArray, List.getElem?_cons_zero, List.getElem?_cons_succ] at u2; have HR6 := Aside0.mk hR6; have HX4 := Aside0.mk X4'; clear X4' hx6 hR6 hG6 hO6 hF6 c2)
    have K4n := blk_set HX4.out 2 (.slice (some ⟨g6, o6, none⟩) (k + 1) c6)
    have n4 : ∀ j, (Value.slice (some ⟨g6, o6, none⟩) (k + 1) c6).ownBlock = some j → j ≠ g4 := fun j hj e => HR6.out.ne HX4.out (by decide) (by rw [← e]; exact hj)
    refine ⟨⟨k + 1, some ⟨g6, o6, none⟩, c6, by simp, by omega, ⟨?_⟩, ⟨?_⟩, ⟨?_⟩, ⟨?_⟩, ⟨?_⟩, ⟨?_⟩⟩, by simp [intOf]; omega⟩
    ·intro m hm
     rw [metrs_succ] at hm
     rcases List.mem_append.1 hm with h | h
     ·exact hOk.out m h
     ·rw [List.mem_singleton.1 h]; exact HOKM.out
    ·exact (Below.heap_setCell w6 (⟨g4, 2, none⟩ : Addr) _ g2 h24).trans X2'.out
    ·refine K4n.trans ?_
     simp
    ·rw [metrs_succ, metV_snoc, HMB.out]
     exact HR6.out.setCell (p := ⟨g4, 2, none⟩) _ (fun e => n4 g4 e rfl)
    ·exact (Below.heap_setCell w6 (⟨g4, 2, none⟩ : Addr) _ p nK4.symm).trans XD'.out
    ·exact gb_set (p := ⟨g4, 2, none⟩) XG'.out hgw4 _
  ·have hkn : k = n := by omega
   have q4 : decide ((k : Int) < (n : Int)) = false := decide_eq_false (by omega)
   have hEnd := blockErr_end z1 Hn.out z2 (by rw [← HL.out]; exact z3) (by rw [← hkn]; exact hOk.out)
   rw [hkn] at HR RD K4
   have HKN := Aside0.mk hkn
   clear hkn
   by_cases zp : n % 2 = 1
   ·have qp : ((n : Int) % 2 == 1) = true := by rw [two_mod, decide_eq_true zp]
    go_wp2_with fail
    refine (get_good wr p s (a + 64 + 16 * n) 16 RD.out (by omega) (by omega) (by omega) (by omega)).mono ?_
    rintro e z1_ ⟨rfl, hr_, hg_⟩
    replace HR := Aside0.mk (HR.out.gb hg_ (fun k hk => by injection hk with hk; subst hk; exact HR.out.ne RD.out (by decide)))
    replace RD : Aside0 (RdIs z1_ p 146 s ((a + 64 + 16 * n + 16 : Nat) : Int) false) := ⟨by rw [show ((a + 64 + 16 * n + 16 : Nat) : Int) = ((a + 64 + 16 * n : Nat) : Int) + ((16 : Nat) : Int) by omega]; exact hr_⟩
    replace K2 := Aside0.mk (gb_blk hg_ K2.out (fun k hk => by injection hk with hk; subst hk; exact nK2))
    replace K4 := Aside0.mk (gb_blk hg_ K4.out (fun k hk => by injection hk with hk; subst hk; exact nK4))
    replace HG := Aside0.mk (only_trans HG.out hg_)
    clear hg_ hr_
    obtain ⟨Z, hZ⟩ : ∃ V, V = rdBits s (a + 64 + 16 * n) 16 := ⟨_, rfl⟩
    have lZ : Z < 2 ^ 16 := by rw [hZ]; exact rdBits_lt _ _ _
    rw [← hZ]
    have HZ := Aside0.mk hZ
    clear hZ
    by_cases zq : Z = 0
    ·have qq : ((Z : Int) != 0) = false := by rw [zq]; rfl
     have HEE : Aside0 (blockErr s a = 0) := ⟨by rw [hEnd, if_neg (by rintro ⟨_, h⟩; exact h (by rw [← HZ.out]; exact zq))]⟩
     have RDE : Aside0 (RdIs z1_ p 146 s ((blockEnd s a : Nat) : Int) false) := ⟨by unfold blockEnd; rw [Hn.out, show a + 64 + (n + 1) / 2 * 32 = a + 64 + 16 * n + 16 by omega]; exact RD.out⟩
     have v0 := blk_cell K4.out 0
     have v1 := blk_cell K4.out 1
     have v2 := blk_cell K4.out 2
     simp only [List.getElem?_toArray, List.getElem?_cons_zero, List.getElem?_cons_succ] at v0 v1 v2
     have x0 := blk_cell K2.out 0
     have x1 := blk_cell K2.out 1
     have x2 := blk_cell K2.out 2
     simp only [List.getElem?_toArray, List.getElem?_cons_zero, List.getElem?_cons_succ] at x0 x1 x2
     have fx0 := blk_frozen K2.out 0
     have fx1 := blk_frozen K2.out 1
     have fx2 := blk_frozen K2.out 2
     go_wp2_with fail
     have z_ := blk_set (blk_set (blk_set K2.out 0 (.int .u32 V1)) 1 (.int .i64 V2)) 2 (.slice A n c)
     refine bodyPost_ret (block_load g2 _ _ _ _ _ _ rfl rfl z_) rfl ?_
     have hne : ∀ g, (Value.slice A n c).ownBlock = some g → g ≠ g2 := fun g hg e => HR.out.ne K2.out (by decide) (by rw [← e]; exact hg)
     refine ⟨_, by rw [HEE.out]; rfl, gb_set (p := ⟨g2, 2, none⟩) (gb_set (p := ⟨g2, 1, none⟩) (gb_set (p := ⟨g2, 0, none⟩) HG.out hgw2 _) hgw2 _) hgw2 _, fun _ => ⟨.slice A n c, ?_, ?_, ?_⟩, fun h => absurd HEE.out h⟩
     ·unfold blockOf
      rw [← HV1.out, ← HV2.out]
     ·unfold blockOf
      rw [Hn.out, metrs_length]
      exact ((HR.out.setCell (p := ⟨g2, 0, none⟩) _ (fun e => hne g2 e rfl)).setCell (p := ⟨g2, 1, none⟩) _ (fun e => hne g2 e rfl)).setCell (p := ⟨g2, 2, none⟩) _ (fun e => hne g2 e rfl)
     ·exact (Below.heap_setCell _ (⟨g2, 2, none⟩ : Addr) _ p nK2.symm).trans ((Below.heap_setCell _ (⟨g2, 1, none⟩ : Addr) _ p nK2.symm).trans ((Below.heap_setCell _ (⟨g2, 0, none⟩ : Addr) _ p nK2.symm).trans RDE.out))
    ·have qq : ((Z : Int) != 0) = true := by simp; omega
     have HEE : Aside0 (blockErr s a = 91) := ⟨by rw [hEnd, if_pos ⟨zp, by rw [← HZ.out]; exact zq⟩]⟩
     have x0 := blk_cell K2.out 0
     have x1 := blk_cell K2.out 1
     have x2 := blk_cell K2.out 2
     simp only [List.getElem?_toArray, List.getElem?_cons_zero, List.getElem?_cons_succ] at x0 x1 x2
     have fx0 := blk_frozen K2.out 0
     have fx1 := blk_frozen K2.out 1
     have fx2 := blk_frozen K2.out 2
     go_wp2_with fail
     have z_ := blk_set (blk_set (blk_set K2.out 0 (.int .u32 0)) 1 (.int .i64 0)) 2 (.slice none 0 0)
     refine bodyPost_ret (block_load g2 _ _ _ _ _ _ rfl rfl z_) rfl ?_
     exact ⟨_, by rw [HEE.out]; rfl, gb_set (p := ⟨g2, 2, none⟩) (gb_set (p := ⟨g2, 1, none⟩) (gb_set (p := ⟨g2, 0, none⟩) HG.out hgw2 _) hgw2 _) hgw2 _, fun h => by rw [HEE.out] at h; exact absurd h (by decide), fun _ => rfl⟩
   ·have qp : ((n : Int) % 2 == 1) = false := by rw [two_mod, decide_eq_false zp]
    have HEE : Aside0 (blockErr s a = 0) := ⟨by rw [hEnd, if_neg (fun h => zp h.1)]⟩
    have RDE : Aside0 (RdIs wr p 146 s ((blockEnd s a : Nat) : Int) false) := ⟨by unfold blockEnd; rw [Hn.out, show a + 64 + (n + 1) / 2 * 32 = a + 64 + 16 * n by omega]; exact RD.out⟩
    have v0 := blk_cell K4.out 0
    have v1 := blk_cell K4.out 1
    have v2 := blk_cell K4.out 2
    simp only [List.getElem?_toArray, List.getElem?_cons_zero, List.getElem?_cons_succ] at v0 v1 v2
    have x0 := blk_cell K2.out 0
    have x1 := blk_cell K2.out 1
    have x2 := blk_cell K2.out 2
    simp only [List.getElem?_toArray, List.getElem?_cons_zero, List.getElem?_cons_succ] at x0 x1 x2
    have fx0 := blk_frozen K2.out 0
    have fx1 := blk_frozen K2.out 1
    have fx2 := blk_frozen K2.out 2
    go_wp2_with fail
    have z_ := blk_set (blk_set (blk_set K2.out 0 (.int .u32 V1)) 1 (.int .i64 V2)) 2 (.slice A n c)
    refine bodyPost_ret (block_load g2 _ _ _ _ _ _ rfl rfl z_) rfl ?_
    have hne : ∀ g, (Value.slice A n c).ownBlock = some g → g ≠ g2 := fun g hg e => HR.out.ne K2.out (by decide) (by rw [← e]; exact hg)
    refine ⟨_, by rw [HEE.out]; rfl, gb_set (p := ⟨g2, 2, none⟩) (gb_set (p := ⟨g2, 1, none⟩) (gb_set (p := ⟨g2, 0, none⟩) HG.out hgw2 _) hgw2 _) hgw2 _, fun _ => ⟨.slice A n c, ?_, ?_, ?_⟩, fun h => absurd HEE.out h⟩
    ·unfold blockOf
     rw [← HV1.out, ← HV2.out]
    ·unfold blockOf
     rw [Hn.out, metrs_length]
     exact ((HR.out.setCell (p := ⟨g2, 0, none⟩) _ (fun e => hne g2 e rfl)).setCell (p := ⟨g2, 1, none⟩) _ (fun e => hne g2 e rfl)).setCell (p := ⟨g2, 2, none⟩) _ (fun e => hne g2 e rfl)
    ·exact (Below.heap_setCell _ (⟨g2, 2, none⟩ : Addr) _ p nK2.symm).trans ((Below.heap_setCell _ (⟨g2, 1, none⟩ : Addr) _ p nK2.symm).trans ((Below.heap_setCell _ (⟨g2, 0, none⟩ : Addr) _ p nK2.symm).trans RDE.out))
end Go.Proofs.Ytgakmnholegbgaa.B
end
section
namespace Go.Proofs.Ytgakmnholegbgaa.B
open Go.RowKit Go.Proofs.YtgakmnholegbgaaW.PrintWords Go.Proofs.YtgakmnholegbgaaW.PrintLast Go.Proofs.YtgakmnholegbgaaW.PrintMore
set_option linter.unusedVariables false
set_option linter.unusedSimpArgs false
theorem ccfb_load (g2 : Nat) (tm : Array Value) (w : World) (u0 u1 u2 x : Value) (t2 : tm[2]?.getD undef = .pointer (some ⟨g2, 0, none⟩)) (t3 : tm[3]?.getD undef = x) (h : w.heap[g2]? = some (.cells #[u0, u1, u2] 53 (0, 0))) :
  (results Try.f39 tm).run Try.prog w = .ok (.tuple #[.agg #[u0, u1, u2], x]) w := by
 have c0 := blk_cell h 0
 have c1 := blk_cell h 1
 have c2 := blk_cell h 2
 simp only [List.getElem?_toArray, List.getElem?_cons_zero, List.getElem?_cons_succ] at c0 c1 c2
 simp [results, Try.results39, go_sem, t2, t3, c0, c1, c2]
def CcfbPost (s : ByteArray) (w : World) (e : Ending) (w' : World) : Prop := ∃ v L, e = .returned (.tuple #[.agg #[.int .u32 (ccfbP s).1.1, v, .int .u32 (ccfbP s).1.2.2], .int .i64 (ccfbP s).2]) ∧ BlocksV w' w.heap.size v L ∧ L.map (·.1) = (ccfbP s).1.2.1 ∧ Below w.heap.size w w'
def decF (s : ByteArray) (g2 p g5 : Nat) (q : Nat → Value) : Act := { tmps := #[.string s, q 1, .pointer (some ⟨g2, 0, none⟩), q 3, .pointer (some ⟨p, 0, none⟩), .pointer (some ⟨g5, 0, none⟩), q 6, q 7, q 8, q 9, q 10, q 11, q 12, q 13, q 14, q 15, q 16, q 17, q 18, q 19, q 20, q 21, q 22, q 23, q 24, q 25, q 26, q 27, q 28, q 29, q 30, q 31, q 32, q 33, q 34, q 35, q 36, q 37, q 38, q 39, q 40, q 41, q 42, q 43, q 44, q 45, q 46, q 47, q 48, q 49, q 50, q 51, q 52, q 53, q 54, q 55], defers := [] }
def DecJ (s : ByteArray) (w0 : World) (g2 : Nat) (a : Act) (w : World) : Prop := ∃ (p g5 k : Nat) (L : List (B3 × Value)) (v : Value) (q : Nat → Value), a = decF s g2 p g5 q ∧ (k + 32 ≤ 8 * s.size ∧ w0.heap.size ≤ p ∧ w0.heap.size ≤ g5 ∧ w0.heap.size ≤ g2 ∧ g2 ≠ g5) ∧ Aside0 (RdIs w p 146 s (k : Int) false) ∧ Aside0 (w.heap[g2]? = some (.cells #[.int .u32 0, .slice none 0 0, .int .u32 0] 53 (0, 0))) ∧
 Aside0 (w.heap[g5]? = some (.cells #[.int .u32 (rdBits s 0 32 : Nat), v, .int .u32 0] 53 (0, 0))) ∧ Aside0 (BlocksV w w0.heap.size v L) ∧ L.length ≤ 16 ∧ Aside0 (BehindB s (L.map (·.1)) k) ∧ Aside0 (Below w0.heap.size w0 w)
theorem DecJ.mk {s : ByteArray} {w0 : World} {g2 p g5 : Nat} {a : Act} {w : World} (k : Nat) (L : List (B3 × Value)) (v : Value) (h : a = decF s g2 p g5 (fun i => a.tmps.getD i undef)) (h1 : k + 32 ≤ 8 * s.size ∧ w0.heap.size ≤ p ∧ w0.heap.size ≤ g5 ∧ w0.heap.size ≤ g2 ∧ g2 ≠ g5) (h2 : RdIs w p 146 s (k : Int) false) (h3 : w.heap[g2]? = some (.cells #[.int .u32 0, .slice none 0 0, .int .u32 0] 53 (0, 0)))
  (h4 : w.heap[g5]? = some (.cells #[.int .u32 (rdBits s 0 32 : Nat), v, .int .u32 0] 53 (0, 0))) (h5 : BlocksV w w0.heap.size v L) (h6 : L.length ≤ 16) (h7 : BehindB s (L.map (·.1)) k) (h8 : Below w0.heap.size w0 w) : DecJ s w0 g2 a w := ⟨p, g5, k, L, v, _, h, h1, ⟨h2⟩, ⟨h3⟩, ⟨h4⟩, ⟨h5⟩, h6, ⟨h7⟩, ⟨h8⟩⟩
def atP (p : Nat) (w : World) : Nat := (intOf ((w.cell? ⟨p, 1, none⟩).getD undef)).toNat
theorem atP_is {w : World} {p : Nat} {s : ByteArray} {k : Nat} {b : Bool} (h : RdIs w p 146 s (k : Int) b) : atP p w = k := by
 have h1 := blk_cell h 1
 simp only [List.getElem?_toArray, List.getElem?_cons_zero, List.getElem?_cons_succ] at h1
 unfold atP
 rw [h1]
 simp [intOf]
def decM (s : ByteArray) (a : Act) (w : World) : Nat := match a.tmps[4]? with
 | some (Value.pointer (some ad)) => 8 * s.size - atP ad.block w
 | _ => 0
theorem zset {w : World} {g2 : Nat} {x0 x1 x2 : Value} (h : w.heap[g2]? = some (.cells #[x0, x1, x2] 53 (0, 0))) (y0 y1 y2 : Value) : (((w.setCell ⟨g2, 0, none⟩ y0).setCell ⟨g2, 1, none⟩ y1).setCell ⟨g2, 2, none⟩ y2).heap[g2]? = some (.cells #[y0, y1, y2] 53 (0, 0)) := blk_set (blk_set (blk_set h 0 y0) 1 y1) 2 y2
set_option maxHeartbeats 4000000 in
theorem ccfb_short (s : ByteArray) (w : World) (hs : s.size ≤ 1000000) (E : Int) (hE : (65536 < s.size ∧ E = 2) ∨ (s.size ≤ 65536 ∧ s.size % 4 ≠ 0 ∧ E = 90) ∨ (s.size ≤ 65536 ∧ s.size % 4 = 0 ∧ s.size < 8 ∧ E = 60)) : Calls Try.prog 39 #[.string s] w (CcfbPost s w) := by
 have hP : ccfbP s = ((0, [], 0), E) := by
  unfold ccfbP
  rcases hE with ⟨h, rfl⟩ | ⟨h1, h2, rfl⟩ | ⟨h1, h2, h3, rfl⟩
  ·rw [if_pos h]
  ·rw [if_neg (by omega), if_pos h2]
  ·rw [if_neg (by omega), if_neg (by omega), if_pos h3]
 have HP := Aside0.mk hP
 clear hP
 have z_ := zset (blk_new w (.cells #[.int .u32 0, .slice none 0 0, .int .u32 0] 53)) (.int .u32 0) (.slice none 0 0) (.int .u32 0)
 have HZ := Aside0.mk (blk_new w (.cells #[.int .u32 0, .slice none 0 0, .int .u32 0] 53))
 clear z_
 rcases hE with ⟨h, rfl⟩ | ⟨h1, h2, rfl⟩ | ⟨h1, h2, h3, rfl⟩
 ·have d1 : decide (65536 < (s.size : Int)) = true := decide_eq_true (by omega)
  go_enter Try.func39, Try.ntmps39
  go_wp2_with fail
  refine wp_scope_goto 0 (fun _ _ => False) (fun _ _ => 0) rfl (fun a w hh => hh.elim) ?_
  intro hrest
  clear hrest
  go_wp2_with fail
  (try simp only [Exit.jump])
  refine bodyPost_ret (ccfb_load w.heap.size _ _ _ _ _ _ rfl rfl HZ.out) rfl ?_
  exact ⟨.slice none 0 0, [], by rw [HP.out]; rfl, BlocksV.nil _ _, by rw [HP.out]; rfl, (Below.refl _ _).alloc (Nat.le_refl _) _⟩
 ·have d1 : decide (65536 < (s.size : Int)) = false := decide_eq_false (by omega)
  have d2 : (((s.size : Int) % 4) != 0) = true := by simp; omega
  go_enter Try.func39, Try.ntmps39
  go_wp2_with fail
  refine wp_scope_goto 0 (fun _ _ => False) (fun _ _ => 0) rfl (fun a w hh => hh.elim) ?_
  intro hrest
  clear hrest
  go_wp2_with fail
  (try simp only [Exit.jump])
  refine bodyPost_ret (ccfb_load w.heap.size _ _ _ _ _ _ rfl rfl HZ.out) rfl ?_
  exact ⟨.slice none 0 0, [], by rw [HP.out]; rfl, BlocksV.nil _ _, by rw [HP.out]; rfl, (Below.refl _ _).alloc (Nat.le_refl _) _⟩
 ·have d1 : decide (65536 < (s.size : Int)) = false := decide_eq_false (by omega)
  have d2 : (((s.size : Int) % 4) != 0) = false := by simp; omega
  have d3 : decide ((s.size : Int) < 8) = true := decide_eq_true (by omega)
  go_enter Try.func39, Try.ntmps39
  go_wp2_with fail
  refine wp_scope_goto 0 (fun _ _ => False) (fun _ _ => 0) rfl (fun a w hh => hh.elim) ?_
  intro hrest
  clear hrest
  go_wp2_with fail
  (try simp only [Exit.jump])
  refine bodyPost_ret (ccfb_load w.heap.size _ _ _ _ _ _ rfl rfl HZ.out) rfl ?_
  exact ⟨.slice none 0 0, [], by rw [HP.out]; rfl, BlocksV.nil _ _, by rw [HP.out]; rfl, (Below.refl _ _).alloc (Nat.le_refl _) _⟩
set_option maxHeartbeats 8000000 in
set_option maxRecDepth 100000 in
theorem ccfb_long (s : ByteArray) (w : World) (h1 : s.size ≤ 65536) (h2 : s.size % 4 = 0) (h3 : 8 ≤ s.size) : Calls Try.prog 39 #[.string s] w (CcfbPost s w) := by
 have d1 : decide (65536 < (s.size : Int)) = false := decide_eq_false (by omega)
 have d2 : (((s.size : Int) % 4) != 0) = false := by simp; omega
 have d3 : decide ((s.size : Int) < 8) = false := decide_eq_false (by omega)
 go_enter Try.func39, Try.ntmps39
 go_wp2_with fail
 refine wp_scope_goto 0 (DecJ s w w.heap.size) (fun a w' => decM s a w') rfl ?_ ?_
 ·rintro a w1 ⟨p, g5, k, L, v, q, rfl, ⟨hk, hwp, hwg5, hwg2, h25⟩, RD, K2, K5, HL, hl16, HBe, HB⟩
  obtain ⟨g2, hg2⟩ : ∃ g, g = w.heap.size := ⟨_, rfl⟩
  rw [← hg2] at K2 h25 ⊢
  replace hwg2 : w.heap.size ≤ g2 := Nat.le_of_eq hg2.symm
  have HG2 := Aside0.mk hg2
  clear hg2
  have h2p : g2 ≠ p := fun e => by have a := K2.out; have b := RD.out; rw [e] at a; unfold RdIs at b; rw [a] at b; injection b with b; injection b with _ b; exact absurd b (by decide)
  have h5p : g5 ≠ p := fun e => by have a := K5.out; have b := RD.out; rw [e] at a; unfold RdIs at b; rw [a] at b; injection b with b; injection b with _ b; exact absurd b (by decide)
  have HM0 := Aside0.mk (atP_is RD.out)
  unfold decF
  go_wp2_with fail
  refine (left_any w1 p s (k : Int) RD.out (by omega) (by omega) (by omega)).mono ?_
  rintro e w2 ⟨rfl, hd⟩
  replace HL := Aside0.mk (HL.out.below hd.below)
  replace RD := Aside0.mk (gb_blk (gb_drawn0 hd none) RD.out (fun k hk => by cases hk))
  replace K2 := Aside0.mk (gb_blk (gb_drawn0 hd none) K2.out (fun k hk => by cases hk))
  replace K5 := Aside0.mk (gb_blk (gb_drawn0 hd none) K5.out (fun k hk => by cases hk))
  replace HB := Aside0.mk (below_drawn2 HB.out hd)
  have hMU : ∀ a', decM s (decF s g2 p g5 a') w1 = decM s (decF s g2 p g5 a') w1 := fun _ => rfl
  clear hMU hd
  obtain ⟨Av, cv, rfl, hnv, hcv⟩ := HL.out.1.form
  by_cases z1 : 8 * s.size - k ≤ 32
  ·have q1 : decide (32 < 8 * (s.size : Int) - (k : Int)) = false := decide_eq_false (by omega)
   go_wp2_with fail
   refine (get_good w2 p s k 32 RD.out (by omega) (by omega) (by omega) (by omega)).mono ?_
   rintro e w3 ⟨rfl, hr_, hg_⟩
   replace HL := Aside0.mk (HL.out.gb hg_ (fun j hj => by injection hj with hj; subst hj; exact ⟨_, shape_blk RD.out, by decide, by decide⟩))
   replace K2 := Aside0.mk (gb_blk hg_ K2.out (fun k hk => by injection hk with hk; subst hk; exact h2p))
   replace K5 := Aside0.mk (gb_blk hg_ K5.out (fun k hk => by injection hk with hk; subst hk; exact h5p))
   replace HB := Aside0.mk (gb_below HB.out hwp hg_)
   clear hg_ hr_ RD
   obtain ⟨V0, hV0⟩ : ∃ V, V = rdBits s 0 32 := ⟨_, rfl⟩
   obtain ⟨V, hV⟩ : ∃ V, V = rdBits s k 32 := ⟨_, rfl⟩
   rw [← hV0] at K5
   rw [← hV]
   have HP := Aside0.mk (ccfbP_ok h1 h2 h3 (HBe.out.done z1))
   rw [← hV0, ← hV] at HP
   clear hV0 hV
   have c0 := blk_cell K5.out 0
   have c1 := blk_cell K5.out 1
   have c2 := blk_cell K5.out 2
   have f2 := blk_frozen K5.out 2
   have f1 := blk_frozen K5.out 1
   have x0 := blk_cell K2.out 0
   have x1 := blk_cell K2.out 1
   have x2 := blk_cell K2.out 2
   simp only [List.getElem?_toArray, List.getElem?_cons_zero, List.getElem?_cons_succ] at c0 c1 c2 x0 x1 x2
   have fx0 := blk_frozen K2.out 0
   have fx1 := blk_frozen K2.out 1
   have fx2 := blk_frozen K2.out 2
   go_wp2_with fail
   (try simp only [Exit.jump])
   have z5 := blk_set K5.out 2 (.int .u32 (V : Int))
   have z2 := (Below.heap_setCell w3 (⟨g5, 2, none⟩ : Addr) (.int .u32 (V : Int)) g2 h25).trans K2.out
   refine bodyPost_ret (ccfb_load g2 _ _ _ _ _ _ rfl rfl (zset z2 (.int .u32 (V0 : Int)) (.slice Av L.length cv) (.int .u32 (V : Int)))) rfl ?_
   have l1 := HL.out.setCell (p := ⟨g5, 2, none⟩) (.int .u32 (V : Int)) K5.out (by decide) (by decide)
   have l2 := l1.setCell (p := ⟨g2, 0, none⟩) (.int .u32 (V0 : Int)) z2 (by decide) (by decide)
   have l3 := l2.setCell (p := ⟨g2, 1, none⟩) (.slice Av L.length cv) (blk_set z2 0 (.int .u32 (V0 : Int))) (by decide) (by decide)
   have l4 := l3.setCell (p := ⟨g2, 2, none⟩) (.int .u32 (V : Int)) (blk_set (blk_set z2 0 (.int .u32 (V0 : Int))) 1 (.slice Av L.length cv)) (by decide) (by decide)
   exact ⟨.slice Av L.length cv, L, by rw [HP.out]; rfl, l4, by rw [HP.out], (((HB.out.setCell (p := ⟨g5, 2, none⟩) hwg5 _).setCell (p := ⟨g2, 0, none⟩) hwg2 _).setCell (p := ⟨g2, 1, none⟩) hwg2 _).setCell (p := ⟨g2, 2, none⟩) hwg2 _⟩
  ·have q1 : decide (32 < 8 * (s.size : Int) - (k : Int)) = true := decide_eq_true (by omega)
   have c0 := blk_cell K5.out 0
   have c1 := blk_cell K5.out 1
   have c2 := blk_cell K5.out 2
   have f2 := blk_frozen K5.out 2
   have f1 := blk_frozen K5.out 1
   have x0 := blk_cell K2.out 0
   have x1 := blk_cell K2.out 1
   have x2 := blk_cell K2.out 2
   simp only [List.getElem?_toArray, List.getElem?_cons_zero, List.getElem?_cons_succ] at c0 c1 c2 x0 x1 x2
   have fx0 := blk_frozen K2.out 0
   have fx1 := blk_frozen K2.out 1
   have fx2 := blk_frozen K2.out 2
   by_cases z2 : L.length = 16
   ·have q2 : ((L.length : Int) == 16) = true := by rw [z2]; rfl
    have HP := Aside0.mk (ccfbP_bad h1 h2 h3 (HBe.out.many z1 (by rw [List.length_map]; exact z2)))
    clear z2
    go_wp2_with fail
    (try simp only [Exit.jump])
    refine bodyPost_ret (ccfb_load g2 _ _ _ _ _ _ rfl rfl (zset K2.out (.int .u32 0) (.slice none 0 0) (.int .u32 0))) rfl ?_
    exact ⟨.slice none 0 0, [], by rw [HP.out]; rfl, BlocksV.nil _ _, by rw [HP.out]; rfl, ((HB.out.setCell (p := ⟨g2, 0, none⟩) hwg2 _).setCell (p := ⟨g2, 1, none⟩) hwg2 _).setCell (p := ⟨g2, 2, none⟩) hwg2 _⟩
   ·have q2 : ((L.length : Int) == 16) = false := by simp; omega
    go_wp2_with fail
    refine (block_any w2 p s k RD.out h1 (by omega)).mono ?_
    rintro e w3 ⟨vb, rfl, hg_, hok, hno⟩
    clear c0 c1 c2 f1 f2 x0 x1 x2 fx0 fx1 fx2
    have HL2s := HB.out.size
    replace HL := Aside0.mk (HL.out.gb hg_ (fun j hj => by injection hj with hj; subst hj; exact ⟨_, shape_blk RD.out, by decide, by decide⟩))
    replace K2 := Aside0.mk (gb_blk hg_ K2.out (fun k hk => by injection hk with hk; subst hk; exact h2p))
    replace K5 := Aside0.mk (gb_blk hg_ K5.out (fun k hk => by injection hk with hk; subst hk; exact h5p))
    replace HB := Aside0.mk (gb_below HB.out hwp hg_)
    clear hg_ RD
    have c0 := blk_cell K5.out 0
    have c1 := blk_cell K5.out 1
    have c2 := blk_cell K5.out 2
    have f2 := blk_frozen K5.out 2
    have f1 := blk_frozen K5.out 1
    have x0 := blk_cell K2.out 0
    have x1 := blk_cell K2.out 1
    have x2 := blk_cell K2.out 2
    simp only [List.getElem?_toArray, List.getElem?_cons_zero, List.getElem?_cons_succ] at c0 c1 c2 x0 x1 x2
    have fx0 := blk_frozen K2.out 0
    have fx1 := blk_frozen K2.out 1
    have fx2 := blk_frozen K2.out 2
    by_cases hE : blockErr s k = 0
    ·obtain ⟨vm, rfl, hRm, hRd⟩ := hok hE
     obtain ⟨Am, cm, rfl, hnm, hcm⟩ := hRm.form
     have RD := Aside0.mk hRd
     have HRm := Aside0.mk (hRm.low HL2s)
     have HBn := Aside0.mk (HBe.out.next z1 (by rw [List.length_map]; exact z2) hE)
     have hend := blockEnd_le (by omega) hE
     have hlt := blockEnd_lt s k
     rw [hE]
     obtain ⟨bl, hbl⟩ : ∃ b, b = blockOf s k := ⟨_, rfl⟩
     obtain ⟨be, hbe⟩ : ∃ b, b = blockEnd s k := ⟨_, rfl⟩
     rw [← hbl] at HRm HBn hnm ⊢
     rw [← hbe] at RD HBn hend hlt
     obtain ⟨b1, b2, b3⟩ := bl
     dsimp only at HRm hnm ⊢
     clear hok hno hE hRm hRd hbl hbe c0 c1 c2 f1 f2 x0 x1 x2 fx0 fx1 fx2
     have X5 := Aside0.mk (gb_blk (World.grownBy_alloc (w3.alloc (.cells #[.int .u32 b1, .int .i64 b2, .slice Am b3.length cm] 49)) (.cells #[.int .u32 b1, .int .i64 b2, .slice Am b3.length cm] 49) none) (gb_blk (World.grownBy_alloc w3 (.cells #[.int .u32 b1, .int .i64 b2, .slice Am b3.length cm] 49) none) K5.out (fun k hk => by cases hk)) (fun k hk => by cases hk))
     have X2 := Aside0.mk (gb_blk (World.grownBy_alloc (w3.alloc (.cells #[.int .u32 b1, .int .i64 b2, .slice Am b3.length cm] 49)) (.cells #[.int .u32 b1, .int .i64 b2, .slice Am b3.length cm] 49) none) (gb_blk (World.grownBy_alloc w3 (.cells #[.int .u32 b1, .int .i64 b2, .slice Am b3.length cm] 49) none) K2.out (fun k hk => by cases hk)) (fun k hk => by cases hk))
     have XD := Aside0.mk (gb_blk (World.grownBy_alloc (w3.alloc (.cells #[.int .u32 b1, .int .i64 b2, .slice Am b3.length cm] 49)) (.cells #[.int .u32 b1, .int .i64 b2, .slice Am b3.length cm] 49) none) (gb_blk (World.grownBy_alloc w3 (.cells #[.int .u32 b1, .int .i64 b2, .slice Am b3.length cm] 49) none) RD.out (fun k hk => by cases hk)) (fun k hk => by cases hk))
     have XL := Aside0.mk ((HL.out.alloc (.cells #[.int .u32 b1, .int .i64 b2, .slice Am b3.length cm] 49)).alloc (.cells #[.int .u32 b1, .int .i64 b2, .slice Am b3.length cm] 49))
     have XM := Aside0.mk ((HRm.out.alloc (.cells #[.int .u32 b1, .int .i64 b2, .slice Am b3.length cm] 49)).alloc (.cells #[.int .u32 b1, .int .i64 b2, .slice Am b3.length cm] 49))
     have XB := Aside0.mk ((HB.out.alloc (o := .cells #[.int .u32 b1, .int .i64 b2, .slice Am b3.length cm] 49) HB.out.size).alloc (o := .cells #[.int .u32 b1, .int .i64 b2, .slice Am b3.length cm] 49) (by have := HB.out.size; simp; omega))
     have HNX : Aside0 (∀ j u, ([.int .u32 b1, .int .i64 b2, .slice Am b3.length cm] : List Value)[j]? = some u → ((w3.alloc (.cells #[.int .u32 b1, .int .i64 b2, .slice Am b3.length cm] 49)).alloc (.cells #[.int .u32 b1, .int .i64 b2, .slice Am b3.length cm] 49)).cell? ((⟨w3.heap.size + 1, 0, none⟩ : Addr).add j) = some u) := ⟨by
      have h := new_news (w3.alloc (.cells #[.int .u32 b1, .int .i64 b2, .slice Am b3.length cm] 49)) [.int .u32 b1, .int .i64 b2, .slice Am b3.length cm] 49
      simpa using h⟩
     have HBX : Aside0 (w.heap.size ≤ ((w3.alloc (.cells #[.int .u32 b1, .int .i64 b2, .slice Am b3.length cm] 49)).alloc (.cells #[.int .u32 b1, .int .i64 b2, .slice Am b3.length cm] 49)).heap.size) := ⟨XB.out.size⟩
     have c1 := blk_cell K5.out 1
     simp only [List.getElem?_toArray, List.getElem?_cons_zero, List.getElem?_cons_succ] at c1
     obtain ⟨nl, hnl⟩ : ∃ n, n = L.length := ⟨_, rfl⟩
     rw [← hnl] at c1 hl16 z2 hnv X5 XL q2 ⊢
     have HNL := Aside0.mk hnl
     have h5l := blk_lt K5.out
     clear hnl K5
     go_wp2_with (at_builtin; go_loud (refine row_append (w := (w3.alloc (.cells #[.int .u32 b1, .int .i64 b2, .slice Am b3.length cm] 49)).alloc (.cells #[.int .u32 b1, .int .i64 b2, .slice Am b3.length cm] 49)) rfl (.tmp 47) (.tmp 49) 50 rfl 49 Try.t49 (.agg #[.int .u32 0, .int .i64 0, .slice none 0 0]) 3 40 Try.underlying50 (by kernel_rfl) rfl rfl rfl (by decide) (by decide) w.heap.size (.slice Av nl cv) nl (blkV L) (by rfl) (by rw [HNL.out]; rw [← HNL.out]; exact HNL.out ▸ XL.out.1) ⟨w3.heap.size + 1, 0, none⟩ 1 1 [.int .u32 b1, .int .i64 b2, .slice Am b3.length cm] (by rfl) rfl HNX.out (by simp [Value.oneCell']) (by simp only [maxLen]; omega) (by omega) HBX.out ?_); intro v1 w6 hR6 hG6 hO6 hF6; have XP := Aside0.mk (XL.out.push (b := (b1, b2, b3)) XM.out hG6 (by rw [← HNL.out]; exact hR6)); obtain ⟨g6, o6, c6, rfl, hb6, hn6, hc6, hx6⟩ := hR6.some_ (by omega); have X5' := gb_blkR hG6 XL.out.1 X5.out (by decide); have X2' := Aside0.mk (gb_blkR hG6 XL.out.1 X2.out (by decide)); have XD' := Aside0.mk (gb_blkR hG6 XL.out.1 XD.out (by decide)); have XB' := Aside0.mk (below_new XB.out hG6 (fun k hk => (XL.out.1.lt hk).2.1)); have u1 := blk_cell X5' 1; have u1f := blk_frozen X5' 1; simp only [List.getElem?_toArray, List.getElem?_cons_zero, List.getElem?_cons_succ] at u1; have HX5 := Aside0.mk X5'; clear X5' hx6 hR6 hG6 hO6 hF6 c1)
     go_step3
     have K5n := blk_set HX5.out 1 (.slice (some ⟨g6, o6, none⟩) (nl + 1) c6)
     have RDn : RdIs (w6.setCell ⟨g5, 1, none⟩ (.slice (some ⟨g6, o6, none⟩) (nl + 1) c6)) p 146 s ((be : Nat) : Int) false := (Below.heap_setCell w6 (⟨g5, 1, none⟩ : Addr) _ p h5p.symm).trans XD'.out
     show (0 : Nat) = 0 ∧ _ ∧ _
     refine ⟨rfl, DecJ.mk be (L ++ [((b1, b2, b3), .slice Am b3.length cm)]) (.slice (some ⟨g6, o6, none⟩) (nl + 1) c6) rfl ⟨by omega, hwp, hwg5, hwg2, h25⟩ RDn ?_ ?_ ?_ ?_ ?_ ?_, ?_⟩
     ·exact (Below.heap_setCell w6 (⟨g5, 1, none⟩ : Addr) _ g2 h25).trans X2'.out
     ·exact K5n
     ·exact XP.out.setCell (p := ⟨g5, 1, none⟩) _ HX5.out (by decide) (by decide)
     ·rw [List.length_append, ← HNL.out]
      simp only [List.length_cons, List.length_nil]
      omega
     ·rw [List.map_append]
      exact HBn.out
     ·exact XB'.out.setCell (p := ⟨g5, 1, none⟩) hwg5 _
     ·show 8 * s.size - atP p _ < 8 * s.size - atP p w1
      rw [HM0.out, atP_is RDn]
      omega
    ·have q3 : (blockErr s k != 0) = true := by simp [hE]
     have HP := Aside0.mk (ccfbP_bad h1 h2 h3 (HBe.out.bad z1 (by rw [List.length_map]; exact z2) hE))
     obtain rfl := hno hE
     obtain ⟨EE, hEE⟩ : ∃ E, E = blockErr s k := ⟨_, rfl⟩
     rw [← hEE] at q3 HP ⊢
     clear hok hno hE hEE
     have h2l := blk_lt K2.out
     go_wp2_with fail
     (try simp only [Exit.jump])
     have z_ := gb_blk (World.grownBy_alloc _ (.cells #[.int .u32 0, .int .i64 0, .slice none 0 0] 49) none) (zset K2.out (.int .u32 0) (.slice none 0 0) (.int .u32 0)) (fun k hk => by cases hk)
     refine bodyPost_ret (ccfb_load g2 _ _ _ _ _ _ rfl rfl z_) rfl ?_
     exact ⟨.slice none 0 0, [], by rw [HP.out]; rfl, BlocksV.nil _ _, by rw [HP.out]; rfl, (((HB.out.setCell (p := ⟨g2, 0, none⟩) hwg2 _).setCell (p := ⟨g2, 1, none⟩) hwg2 _).setCell (p := ⟨g2, 2, none⟩) hwg2 _).alloc (by have := HB.out.size; simpa [World.setCell] using this) _⟩
 ·intro hrest
  go_wp2_with fail
  refine (read_any _ s).mono ?_
  rintro e w1 ⟨rfl, rfl⟩
  have K2a := Aside0.mk (blk_new w (.cells #[.int .u32 0, .slice none 0 0, .int .u32 0] 53))
  have RDa : RdIs ((w.alloc (.cells #[.int .u32 0, .slice none 0 0, .int .u32 0] 53)).alloc (.cells #[.string s, .int .i64 0, .bool false] 146)) (w.heap.size + 1) 146 s ((0 : Nat) : Int) false := by
   have h := blk_new (w.alloc (.cells #[.int .u32 0, .slice none 0 0, .int .u32 0] 53)) (.cells #[.string s, .int .i64 0, .bool false] 146)
   rw [show (w.alloc (.cells #[.int .u32 0, .slice none 0 0, .int .u32 0] 53)).heap.size = w.heap.size + 1 by simp] at h
   exact h
  have K2 : Aside0 (((w.alloc (.cells #[.int .u32 0, .slice none 0 0, .int .u32 0] 53)).alloc (.cells #[.string s, .int .i64 0, .bool false] 146)).heap[w.heap.size]? = some (.cells #[.int .u32 0, .slice none 0 0, .int .u32 0] 53 (0, 0))) := ⟨gb_blk (World.grownBy_alloc _ _ none) K2a.out (fun k hk => by cases hk)⟩
  have HB : Aside0 (Below w.heap.size w ((w.alloc (.cells #[.int .u32 0, .slice none 0 0, .int .u32 0] 53)).alloc (.cells #[.string s, .int .i64 0, .bool false] 146))) := ⟨((Below.refl _ _).alloc (Nat.le_refl _) _).alloc (by simp) _⟩
  obtain ⟨p, hp⟩ : ∃ p, p = w.heap.size + 1 := ⟨_, rfl⟩
  rw [show (w.alloc (.cells #[.int .u32 0, .slice none 0 0, .int .u32 0] 53)).heap.size = p by rw [hp]; simp]
  rw [← hp] at RDa
  have RD := Aside0.mk RDa
  generalize (w.alloc (.cells #[.int .u32 0, .slice none 0 0, .int .u32 0] 53)).alloc (.cells #[.string s, .int .i64 0, .bool false] 146) = w1 at *
  have nK2 : w.heap.size ≠ p := by omega
  have hwp : w.heap.size ≤ p := by omega
  clear hp RDa K2a
  go_wp2_with fail
  refine (get_good w1 p s 0 32 RD.out (by omega) (by omega) (by omega) (by omega)).mono ?_
  rintro e w2 ⟨rfl, hr_, hg_⟩
  replace RD : Aside0 (RdIs w2 p 146 s ((32 : Nat) : Int) false) := ⟨by simpa using hr_⟩
  replace K2 := Aside0.mk (gb_blk hg_ K2.out (fun k hk => by injection hk with hk; subst hk; exact nK2))
  replace HB := Aside0.mk (gb_below HB.out hwp hg_)
  clear hg_ hr_
  obtain ⟨V, hV⟩ : ∃ V, V = rdBits s 0 32 := ⟨_, rfl⟩
  rw [← hV]
  have HV := Aside0.mk hV
  clear hV
  go_wp2_with fail
  have K2b := Aside0.mk (gb_blk (World.grownBy_alloc w2 (.cells #[.int .u32 (V : Int), .slice none 0 0, .int .u32 0] 53) none) K2.out (fun k hk => by cases hk))
  have RDb : RdIs (w2.alloc (.cells #[.int .u32 (V : Int), .slice none 0 0, .int .u32 0] 53)) p 146 s ((32 : Nat) : Int) false := gb_blk (World.grownBy_alloc w2 _ none) RD.out (fun k hk => by cases hk)
  have h2l := blk_lt K2.out
  have hsz := HB.out.size
  go_step3
  rename_i K3 hK3
  refine hK3 _ _ (hrest.out _ _ (DecJ.mk (p := p) (g5 := w2.heap.size) 32 [] (.slice none 0 0) rfl ⟨by omega, hwp, hsz, Nat.le_refl _, by omega⟩ RDb K2b.out ?_ (BlocksV.nil _ _) (by simp) (BehindB.start s) (HB.out.alloc hsz _)))
  rw [← HV.out]
  exact blk_new w2 _
theorem ccfb_any (s : ByteArray) (w : World) (h : s.size ≤ 1000000) : Calls Try.prog 39 #[.string s] w (CcfbPost s w) := by
 by_cases h1 : 65536 < s.size
 ·exact ccfb_short s w h 2 (.inl ⟨h1, rfl⟩)
 ·by_cases h2 : s.size % 4 = 0
  ·by_cases h3 : s.size < 8
   ·exact ccfb_short s w h 60 (.inr (.inr ⟨by omega, h2, h3, rfl⟩))
   ·exact ccfb_long s w (by omega) h2 (by omega)
  ·exact ccfb_short s w h 90 (.inr (.inl ⟨by omega, h2, rfl⟩))
end Go.Proofs.Ytgakmnholegbgaa.B
end
section
namespace Go.Proofs.Ytgakmnholegbgaa.B
open Go.RowKit Go.Proofs.YtgakmnholegbgaaW.PrintWords Go.Proofs.YtgakmnholegbgaaW.PrintLast Go.Proofs.YtgakmnholegbgaaW.PrintMore
set_option linter.unusedVariables false
set_option linter.unusedSimpArgs false
def PartsAt (w : World) (A : Option Addr) (l : List P3) : Prop := ∀ i x, l[i]? = some x → ∃ ad : Addr, A = some ad ∧ w.cell? (ad.add (i * 3)) = some (.int .i64 x.1) ∧
 w.cell? ⟨(ad.add (i * 3)).block, (ad.add (i * 3)).off + 1, none⟩ = some (.int .i64 x.2.1) ∧ w.cell? ⟨(ad.add (i * 3)).block, (ad.add (i * 3)).off + 2, none⟩ = some (.string x.2.2)
theorem PartsAt.below {w w' : World} {A : Option Addr} {l : List P3} (h : PartsAt w A l) (hb : Below w.heap.size w w') : PartsAt w' A l := by
 intro i x hx
 obtain ⟨ad, e, h0, h1, h2⟩ := h i x hx
 have hk := hb.block _ (World.block_lt_of_cell? w _ h0)
 have key : ∀ (p : Addr) (v : Value), p.block = (ad.add (i * 3)).block → w.cell? p = some v → w'.cell? p = some v := by
  intro p v hp hc
  rw [World.cell?_of_block (w := w) (by rw [hp]; exact hk)]
  exact hc
 exact ⟨ad, e, key _ _ rfl h0, key _ _ rfl h1, key _ _ rfl h2⟩
end Go.Proofs.Ytgakmnholegbgaa.B
end
section
namespace Go.Proofs.Ytgakmnholegbgaa.B
open Go.RowKit Go.Proofs.YtgakmnholegbgaaW.PrintWords Go.Proofs.YtgakmnholegbgaaW.PrintLast Go.Proofs.YtgakmnholegbgaaW.PrintMore
set_option linter.unusedVariables false
set_option linter.unusedSimpArgs false
def faultV (e : Int) : PanicEntry := { v := .iface 99 (.agg #[.int .i64 e]), recovered := false }
theorem want_yes (e : Int) (w : World) : Calls Try.prog 37 #[.bool true, .int .i64 e] w fun r w' => r = .returned (.tuple #[]) ∧ w' = w := by
 go_enter Try.func37, Try.ntmps37
 go_wp2_with fail
 go_end0
 exact ⟨rfl, rfl⟩
theorem want_no (e : Int) (w : World) : Calls Try.prog 37 #[.bool false, .int .i64 e] w fun r w' => r = .panicked [faultV e] ∧ w' = w := by
 go_enter Try.func37, Try.ntmps37
 go_wp2_with fail
 exact ⟨rfl, rfl, rfl⟩
theorem catch_idle (a b : Addr) (w : World) :
  CallsD Try.prog 36 #[.pointer (some a), .pointer (some b)] .returning w fun e u' w' => e = .returned (.tuple #[]) ∧ u' = .returning ∧ w' = w := by
 refine callsD_of_wpS Try.func36 rfl fun c₀ cs hu => ?_
 apply wpS_seq
 apply wpS_region
 simp [wpOpsS, go_sem, recoverD, hu, Try.ntmps36, Exit.thenS]
 refine wpS_of_wp ?_
 simp only [show (#[Value.pointer (some a), Value.pointer (some b)] ++ (Array.replicate 11 undef).setIfInBounds 3 Value.nilIface) = #[.pointer (some a), .pointer (some b), undef, undef, undef, .nilIface, undef, undef, undef, undef, undef, undef, undef] from rfl]
 go_wp2_with fail
 cases c₀
 simp_all [bodyPostS, results, Try.results36]
theorem catch_fault (g1 g2 : Nat) (e : Int) (w : World) (x y : Value) (hne : ¬ g1 = g2) (ha : w.cell? ⟨g1, 0, none⟩ = some x) (hb : w.cell? ⟨g2, 0, none⟩ = some y) (fa : w.frozen? ⟨g1, 0, none⟩ = false) (fb : w.frozen? ⟨g2, 0, none⟩ = false) :
  CallsD Try.prog 36 #[.pointer (some ⟨g1, 0, none⟩), .pointer (some ⟨g2, 0, none⟩)] (.panicking [faultV e]) w fun r u' w' => r = .returned (.tuple #[]) ∧ u' = .panicking [{ faultV e with recovered := true }] ∧ w' = (((w.setCell ⟨g1, 0, none⟩ (.slice none 0 0)).setCell ⟨g2, 0, none⟩ (.int .i64 e)).alloc (.cells #[.int .i64 e] 99)).drew := by
 have hl1 := World.block_lt_of_cell? w _ ha
 have hl2 := World.block_lt_of_cell? w _ hb
 dsimp only at hl1 hl2
 have hta : ∀ w : World, (Instr.typeAssert (Value.iface 99 (.agg #[.int .i64 e])) 20 99 true).run Try.prog w = .ok (.tuple #[.agg #[.int .i64 e], .bool true]) w := fun _ => by kernel_rfl
 refine callsD_of_wpS Try.func36 rfl fun c₀ cs hu => ?_
 apply wpS_seq
 apply wpS_region
 simp [wpOpsS, go_sem, recoverD, hu, Try.ntmps36, Exit.thenS, faultV]
 refine wpS_of_wp ?_
 simp only [show (#[Value.pointer (some ⟨g1, 0, none⟩), Value.pointer (some ⟨g2, 0, none⟩)] ++ (Array.replicate 11 undef).setIfInBounds 3 (Value.iface 99 (Value.agg #[Value.int IntKind.i64 e]))) = #[.pointer (some ⟨g1, 0, none⟩), .pointer (some ⟨g2, 0, none⟩), undef, undef, undef, .iface 99 (.agg #[.int .i64 e]), undef, undef, undef, undef, undef, undef, undef] from rfl]
 go_wp2_with fail
 go_region
 all_goals go_wp2_with fail
 all_goals (cases c₀; simp_all [bodyPostS, results, Try.results36])
end Go.Proofs.Ytgakmnholegbgaa.B
end
section
namespace Go.Proofs.Ytgakmnholegbgaa.B
open Go.RowKit Go.Proofs.YtgakmnholegbgaaW.PrintWords Go.Proofs.YtgakmnholegbgaaW.PrintLast Go.Proofs.YtgakmnholegbgaaW.PrintMore
set_option linter.unusedVariables false
set_option linter.unusedSimpArgs false
theorem bad_any (w : World) (p : Nat) (s : ByteArray) (a : Int) (b : Bool) (h : RdIs w p 146 s a b) : Calls Try.prog 59 #[.pointer (some ⟨p, 0, none⟩)] w fun e w' => e = .returned (.bool b) ∧ w' = w := by
 have h2 := blk_cell h 2
 simp only [List.getElem?_toArray, List.getElem?_cons_zero, List.getElem?_cons_succ] at h2
 clear h
 go_enter Try.func59, Try.ntmps59
 go_wp2_with fail
 all_goals go_ret
 all_goals exact ⟨rfl, rfl⟩
theorem grown_below {w w1 w2 : World} {p : Nat} (hb : Below w.heap.size w w1) (hp : w.heap.size ≤ p) (hg : w1.grownBy w2 (some p)) : Below w.heap.size w w2 :=
  hb.grown hg hb.size (fun k hk => by have e : p = k := by injection hk
                                      omega)
def PartPost (s : ByteArray) (w : World) (e : Ending) (w' : World) : Prop := ((partErr s = 0 ∧ e = .returned (.tuple #[.agg #[.int .i64 (byteN s 0 % 32 : Nat), .int .i64 (byteN s 1 : Nat), .string (partBody s)], .int .i64 (partSize s : Nat)])) ∨ (partErr s ≠ 0 ∧ e = .panicked [faultV (partErr s)])) ∧ Below w.heap.size w w'
theorem PartPost.bad {s : ByteArray} {w w' : World} {n : Int} (h : partErr s = n) (h0 : n ≠ 0) (hb : Below w.heap.size w w') : PartPost s w (.panicked [faultV n]) w' := ⟨.inr ⟨by rw [h]; exact h0, by rw [h]⟩, hb⟩
theorem some_ne_ {a b : Nat} (h : a ≠ b) : some a ≠ some b := fun e => h (Option.some.inj e)
set_option maxHeartbeats 8000000 in
set_option maxRecDepth 100000 in
theorem part_long (s : ByteArray) (w : World) (hs : 4 ≤ s.size) (hs2 : s.size ≤ 1000000) :
  Calls Try.prog 38 #[.string s] w (PartPost s w) := by
 have hb0 := byteN_lt s 0
 have hb1 := byteN_lt s 1
 have hb2 := byteN_lt s 2
 have hb3 := byteN_lt s 3
 obtain ⟨V0, hV0⟩ : ∃ V, V = byteN s 0 / 64 % 4 := ⟨_, rfl⟩
 obtain ⟨V1, hV1⟩ : ∃ V, V = byteN s 0 / 32 % 2 := ⟨_, rfl⟩
 obtain ⟨V2, hV2⟩ : ∃ V, V = byteN s 0 % 32 := ⟨_, rfl⟩
 obtain ⟨V3, hV3⟩ : ∃ V, V = byteN s 1 := ⟨_, rfl⟩
 obtain ⟨V4, hV4⟩ : ∃ V, V = byteN s 2 * 256 + byteN s 3 := ⟨_, rfl⟩
 have v0 : V0 ≤ 3 := by omega
 have v1 : V1 ≤ 1 := by omega
 have v2 : V2 ≤ 31 := by omega
 have v3 : V3 ≤ 255 := by omega
 have v4 : V4 ≤ 65535 := by omega
 have H0 : Aside0 (rdBits s 0 2 = V0) := ⟨by rw [rd_mark, hV0]⟩
 have H1 : Aside0 (rdBits s 2 1 = V1) := ⟨by rw [rd_pad, hV1]⟩
 have H2 : Aside0 (rdBits s 3 5 = V2) := ⟨by rw [rd_count, hV2]⟩
 have H3 : Aside0 (rdBits s 8 8 = V3) := ⟨by rw [rd_type, hV3]⟩
 have H4 : Aside0 (rdBits s 16 16 = V4) := ⟨by rw [rd_words, hV4]⟩
 have HV := Aside0.mk (And.intro hV0 (And.intro hV1 (And.intro hV2 (And.intro hV3 hV4))))
 clear hV0 hV1 hV2 hV3 hV4 hb0 hb1 hb2 hb3
 go_enter Try.func38, Try.ntmps38
 go_wp2_with fail
 refine (read_any _ s).mono ?_
 rintro e w1 ⟨rfl, rfl⟩
 have hr0 : RdIs ((w.alloc (.cells #[.int .i64 0, .int .i64 0, .string { data := #[] }] 56)).alloc (.cells #[.string s, .int .i64 0, .bool false] 146)) (w.heap.size + 1) 146 s ((0 : Nat) : Int) false := by
  have h := blk_new (w.alloc (.cells #[.int .i64 0, .int .i64 0, .string { data := #[] }] 56)) (.cells #[.string s, .int .i64 0, .bool false] 146)
  rw [show (w.alloc (.cells #[.int .i64 0, .int .i64 0, .string { data := #[] }] 56)).heap.size = w.heap.size + 1 by simp] at h
  exact h
 have hB0 : Below w.heap.size w ((w.alloc (.cells #[.int .i64 0, .int .i64 0, .string { data := #[] }] 56)).alloc (.cells #[.string s, .int .i64 0, .bool false] 146)) := ((Below.refl _ _).alloc (Nat.le_refl _) _).alloc (by simp) _
 have hRB : ((w.alloc (.cells #[.int .i64 0, .int .i64 0, .string { data := #[] }] 56)).alloc (.cells #[.string s, .int .i64 0, .bool false] 146)).heap[w.heap.size]? = some (.cells #[.int .i64 0, .int .i64 0, .string { data := #[] }] 56 (0, 0)) := (Below.heap_alloc _ _ _ (by simp)).trans (blk_new w _)
 obtain ⟨p, hp⟩ : ∃ p, p = w.heap.size + 1 := ⟨_, rfl⟩
 obtain ⟨rb, hrb⟩ : ∃ p, p = w.heap.size := ⟨_, rfl⟩
 rw [show (w.alloc (.cells #[.int .i64 0, .int .i64 0, .string { data := #[] }] 56)).heap.size = p by simp [hp]]
 rw [← hp] at hr0
 rw [← hrb] at hRB ⊢
 generalize (w.alloc (.cells #[.int .i64 0, .int .i64 0, .string { data := #[] }] 56)).alloc (.cells #[.string s, .int .i64 0, .bool false] 146) = w1 at *
 have hpw : w.heap.size ≤ p := by omega
 have hrp : rb < p := by omega
 have hrw : w.heap.size ≤ rb := by omega
 have R1 := Aside0.mk hr0
 have B1 := Aside0.mk hB0
 have Q1 := Aside0.mk hRB
 clear hp hrb hr0 hB0 hRB
 go_wp2_with fail
 refine (get_good w1 p s 0 2 R1.out (by omega) (by omega) (by omega) (by omega)).mono ?_
 rintro e w2 ⟨rfl, hr, hg⟩
 have R2 : Aside0 (RdIs w2 p 146 s ((2 : Nat) : Int) false) := ⟨by simpa using hr⟩
 have B2 := Aside0.mk (grown_below B1.out hpw hg)
 have Q2 := Aside0.mk (blk_grown Q1.out hg (some_ne_ (by omega)))
 clear hr hg
 rw [H0.out]
 go_wp2_with fail
 refine (get_good w2 p s 2 1 R2.out (by omega) (by omega) (by omega) (by omega)).mono ?_
 rintro e w3 ⟨rfl, hr, hg⟩
 have R3 : Aside0 (RdIs w3 p 146 s ((3 : Nat) : Int) false) := ⟨by simpa using hr⟩
 have B3 := Aside0.mk (grown_below B2.out hpw hg)
 have Q3 := Aside0.mk (blk_grown Q2.out hg (some_ne_ (by omega)))
 clear hr hg
 rw [H1.out]
 go_wp2_with fail
 refine (get_good w3 p s 3 5 R3.out (by omega) (by omega) (by omega) (by omega)).mono ?_
 rintro e w4 ⟨rfl, hr, hg⟩
 have R4 : Aside0 (RdIs w4 p 146 s ((8 : Nat) : Int) false) := ⟨by simpa using hr⟩
 have B4 := Aside0.mk (grown_below B3.out hpw hg)
 have Q4 := Aside0.mk (blk_grown Q3.out hg (some_ne_ (by omega)))
 clear hr hg
 rw [H2.out]
 go_wp2_with fail
 refine (get_good w4 p s 8 8 R4.out (by omega) (by omega) (by omega) (by omega)).mono ?_
 rintro e w5 ⟨rfl, hr, hg⟩
 have R5 : Aside0 (RdIs w5 p 146 s ((16 : Nat) : Int) false) := ⟨by simpa using hr⟩
 have B5 := Aside0.mk (grown_below B4.out hpw hg)
 have Q5 := Aside0.mk (blk_grown Q4.out hg (some_ne_ (by omega)))
 clear hr hg
 rw [H3.out]
 go_wp2_with fail
 have hq0 : (w5.alloc (.cells #[.int .i64 (V2 : Int), .int .i64 (V3 : Int), .string { data := #[] }] 56)).heap[w5.heap.size]? = some (.cells #[.int .i64 (V2 : Int), .int .i64 (V3 : Int), .string { data := #[] }] 56 (0, 0)) := blk_new w5 _
 have hlp := blk_lt R5.out
 have hlr := blk_lt Q5.out
 have R6 : Aside0 (RdIs (w5.alloc (.cells #[.int .i64 (V2 : Int), .int .i64 (V3 : Int), .string { data := #[] }] 56)) p 146 s ((16 : Nat) : Int) false) := ⟨(Below.heap_alloc w5 _ p hlp).trans R5.out⟩
 have B6 := Aside0.mk (B5.out.alloc (o := .cells #[.int .i64 (V2 : Int), .int .i64 (V3 : Int), .string { data := #[] }] 56) B5.out.size)
 have Q6 : Aside0 ((w5.alloc (.cells #[.int .i64 (V2 : Int), .int .i64 (V3 : Int), .string { data := #[] }] 56)).heap[rb]? = _) := ⟨(Below.heap_alloc w5 _ rb hlr).trans Q5.out⟩
 obtain ⟨q, hq⟩ : ∃ q, q = w5.heap.size := ⟨_, rfl⟩
 have hqw : w.heap.size ≤ q := by have := B5.out.size; omega
 rw [← hq] at hq0 hlp hlr ⊢
 have P6 := Aside0.mk hq0
 clear hq hq0
 generalize w5.alloc (.cells #[.int .i64 (V2 : Int), .int .i64 (V3 : Int), .string { data := #[] }] 56) = w6 at *
 refine (get_good w6 p s 16 16 R6.out (by omega) (by omega) (by omega) (by omega)).mono ?_
 rintro e w7 ⟨rfl, hr, hg⟩
 have R7 : Aside0 (RdIs w7 p 146 s ((32 : Nat) : Int) false) := ⟨by simpa using hr⟩
 have B7 := Aside0.mk (grown_below B6.out hpw hg)
 have Q7 := Aside0.mk (blk_grown Q6.out hg (some_ne_ (by omega)))
 have P7 := Aside0.mk (blk_grown P6.out hg (some_ne_ (by omega)))
 clear hr hg
 rw [H4.out]
 have x0 := blk_cell P7.out 0
 have x1 := blk_cell P7.out 1
 have x2 := blk_cell P7.out 2
 have x2f := blk_frozen P7.out 2
 have z0 := blk_cell Q7.out 0
 have z1 := blk_cell Q7.out 1
 have z2 := blk_cell Q7.out 2
 have z0f := blk_frozen Q7.out 0
 have z1f := blk_frozen Q7.out 1
 have z2f := blk_frozen Q7.out 2
 simp only [List.getElem?_toArray, List.getElem?_cons_zero, List.getElem?_cons_succ] at x0 x1 x2 z0 z1 z2
 go_wp2_with fail
 refine (bad_any w7 p s _ false R7.out).mono ?_
 rintro e w8 ⟨rfl, hw8⟩
 obtain rfl := hw8.symm
 have hPS : partSize s = 4 + 4 * V4 := by rw [HV.out.2.2.2.2]; rfl
 have HPS := Aside0.mk hPS
 clear hPS
 by_cases h1 : 4 + 4 * V4 ≤ s.size
 ·have d1 : decide (4 + 4 * (V4 : Int) ≤ (s.size : Int)) = true := decide_eq_true (by omega)
  go_wp2_with fail
  refine (want_yes 60 _).mono ?_
  rintro e w8 ⟨rfl, hw8⟩
  obtain rfl := hw8.symm
  by_cases h2 : V0 = 2
  ·subst h2
   go_wp2_with fail
   refine (want_yes 70 _).mono ?_
   rintro e w8 ⟨rfl, hw8⟩
   obtain rfl := hw8.symm
   by_cases h3 : 192 ≤ V3 ∧ V3 ≤ 223
   ·obtain ⟨h3, h4⟩ := h3
    have d3 : decide ((192 : Int) ≤ (V3 : Int)) = true := decide_eq_true (by omega)
    have d4 : decide ((V3 : Int) ≤ 223) = true := decide_eq_true (by omega)
    have d3' : decide (192 ≤ V3) = true := decide_eq_true h3
    have d4' : decide (V3 ≤ 223) = true := decide_eq_true h4
    have i4 : (4 : Int) ≤ 4 + 4 * (V4 : Int) := by omega
    have i5 : (4 + 4 * (V4 : Int)).toNat = 4 + 4 * V4 := by omega
    have hsl : ∀ w : World, (Instr.slice 9 (.string s) (some (.int .i64 4)) (some (.int .i64 (4 + 4 * (V4 : Int)))) none).run Try.prog w = .ok (.string (s.extract 4 (4 + 4 * V4))) w := by
     intro w
     have h := run_slice_string_if (P := Try.prog) (w := w) 9 s .i64 .i64 4 (4 + 4 * (V4 : Int)) Try.underlying9
     rw [if_pos ⟨by omega, by omega⟩, if_pos ⟨by omega, by omega⟩, i5] at h
     exact h
    go_wp2_with fail
    refine (want_yes 81 _).mono ?_
    rintro e w8 ⟨rfl, hw8⟩
    obtain rfl := hw8.symm
    by_cases h5 : V1 = 0
    ·subst h5
     have HE := Aside0.mk (show partErr s = 0 by
      unfold partErr
      rw [if_neg (by omega), if_neg (by rw [HPS.out]; omega), if_neg (by rw [← HV.out.1]; simp), if_neg (by rw [← HV.out.2.2.2.1]; omega), if_neg (by rw [← HV.out.2.1]; simp)])
     have HPB := Aside0.mk (show partBody s = s.extract 4 (4 + 4 * V4) by
      unfold partBody
      rw [if_neg (by rw [← HV.out.2.1]; simp), HPS.out])
     go_wp2_with fail
     obtain ⟨BD, hBD⟩ : ∃ B, B = s.extract 4 (4 + 4 * V4) := ⟨_, rfl⟩
     rw [← hBD] at HPB ⊢
     have k0 := blk_far Q7.out (p := ⟨q, 2, none⟩) (by show rb ≠ q; omega) (.string BD)
     have k1 := blk_set k0 0 (.int .i64 (V2 : Int))
     have k2 := blk_set k1 1 (.int .i64 (V3 : Int))
     have k3 := blk_set k2 2 (.string BD)
     simp only [List.setIfInBounds_toArray, List.set_cons_zero, List.set_cons_succ] at k3
     have kB := ((((B7.out.setCell (p := ⟨q, 2, none⟩) hqw (.string BD)).setCell (p := ⟨rb, 0, none⟩) hrw (.int .i64 (V2 : Int))).setCell (p := ⟨rb, 1, none⟩) hrw (.int .i64 (V3 : Int))).setCell (p := ⟨rb, 2, none⟩) hrw (.string BD))
     generalize (((w7.setCell ⟨q, 2, none⟩ (.string BD)).setCell ⟨rb, 0, none⟩ (.int .i64 (V2 : Int))).setCell ⟨rb, 1, none⟩ (.int .i64 (V3 : Int))).setCell ⟨rb, 2, none⟩ (.string BD) = W9 at *
     have m0 := blk_cell k3 0
     have m1 := blk_cell k3 1
     have m2 := blk_cell k3 2
     simp only [List.getElem?_toArray, List.getElem?_cons_zero, List.getElem?_cons_succ] at m0 m1 m2
     refine bodyPost_ret (v := .tuple #[.agg #[.int .i64 (V2 : Int), .int .i64 (V3 : Int), .string BD], .int .i64 (4 + 4 * (V4 : Int))]) (by simp [results, Try.results38, go_sem, m0, m1, m2]) rfl ?_
     refine ⟨.inl ⟨HE.out, ?_⟩, kB⟩
     rw [HPB.out, HPS.out, HV.out.2.2.1, HV.out.2.2.2.1]
     simp
    ·obtain rfl : V1 = 1 := by omega
     have hpad : padN s = if 4 < 4 + 4 * V4 then byteN s (4 + 4 * V4 - 1) else 0 := by unfold padN; rw [HPS.out]
     by_cases h6 : V4 = 0
     ·subst h6
      rw [if_neg (by omega)] at hpad
      have HPD := Aside0.mk hpad
      have HE := Aside0.mk (show partErr s = 91 by
       unfold partErr
       rw [if_neg (by omega), if_neg (by rw [HPS.out]; omega), if_neg (by rw [← HV.out.1]; simp), if_neg (by rw [← HV.out.2.2.2.1]; omega), if_pos]
       refine ⟨HV.out.2.1.symm, fun h => ?_⟩
       rw [HPS.out] at h
       rw [HPD.out] at h; omega)
      clear hpad
      by_cases h7 : s.size = 4
      ·have e1 : ((4 : Int) == (s.size : Int)) = true := by rw [h7]; rfl
       have e2 : decide ((4 : Int) ≤ (s.size : Int)) = true := decide_eq_true (by omega)
       clear h7
       go_wp2_with fail
       refine (want_no 91 _).mono ?_
       rintro e w8 ⟨rfl, hw8⟩
       obtain rfl := hw8.symm
       go_wp2_with fail
       exact ⟨rfl, PartPost.bad HE.out (by decide) (B7.out.setCell (p := ⟨q, 2, none⟩) hqw _)⟩
      ·have e1 : ((4 : Int) == (s.size : Int)) = false := beq_eq_false_iff_ne.2 (by omega)
       go_wp2_with fail
       refine (want_no 91 _).mono ?_
       rintro e w8 ⟨rfl, hw8⟩
       obtain rfl := hw8.symm
       go_wp2_with fail
       exact ⟨rfl, PartPost.bad HE.out (by decide) (B7.out.setCell (p := ⟨q, 2, none⟩) hqw _)⟩
     ·rw [if_pos (by omega)] at hpad
      obtain ⟨BN, hBN⟩ : ∃ B, B = byteN s (4 + 4 * V4 - 1) := ⟨_, rfl⟩
      rw [← hBN] at hpad
      have HPD := Aside0.mk hpad
      have hlt : 3 + 4 * V4 < s.size := by omega
      have hby : ((s[3 + 4 * V4]'hlt).toNat : Int) = (BN : Int) := by
       have h := bt_at s ((3 + 4 * V4 : Nat) : Int) (by rw [Int.toNat_natCast]; exact hlt)
       rw [byteN_bt] at h
       rw [hBN, show 4 + 4 * V4 - 1 = 3 + 4 * V4 by omega, ← h]
       simp only [Int.toNat_natCast]
      have hbl : BN < 256 := by rw [hBN]; exact byteN_lt _ _
      have hbl2 : (BN : Int) ≤ 255 := by omega
      clear hBN hpad
      by_cases h7 : 4 + 4 * V4 = s.size
      ·have hbz : (s.extract 4 (4 + 4 * V4)).size = 4 * V4 := by rw [ByteArray.size_extract]; omega
       have hz : s.size = 4 + 4 * V4 := h7.symm
       clear h7
       have f0 : (0 : Int) ≤ (BN : Int) := by omega
       by_cases g1 : 4 ≤ BN
       ·have d5 : decide ((4 : Int) ≤ (BN : Int)) = true := decide_eq_true (by omega)
        have d5' : decide (4 ≤ BN) = true := decide_eq_true g1
        by_cases g2 : BN % 4 = 0
        ·have d6 : (((BN : Int) % 4) == 0) = true := by simp; omega
         by_cases g3 : BN ≤ 4 * V4
         ·have d7 : decide ((BN : Int) ≤ 4 * (V4 : Int)) = true := decide_eq_true (by omega)
          have d7' : decide (BN ≤ 4 * V4) = true := decide_eq_true g3
          go_wp2_with fail
          refine (want_yes 91 _).mono ?_
          rintro e w8 ⟨rfl, hw8⟩
          obtain rfl := hw8.symm
          go_wp2_with fail
          have HE := Aside0.mk (show partErr s = 0 by
           unfold partErr
           rw [if_neg (by omega), if_neg (by rw [HPS.out]; omega), if_neg (by rw [← HV.out.1]; simp), if_neg (by rw [← HV.out.2.2.2.1]; omega), if_neg (by rw [HPS.out, HPD.out]; intro h; exact h.2 ⟨by omega, g1, g2, by omega⟩)])
          have HPB := Aside0.mk (show partBody s = (s.extract 4 (4 + 4 * V4)).extract 0 (4 * V4 - BN) by
           unfold partBody
           rw [if_pos HV.out.2.1.symm, HPS.out, HPD.out, ByteArray.extract_extract]
           congr 1
           omega)
          obtain ⟨BD, hBD⟩ : ∃ B, B = (s.extract 4 (4 + 4 * V4)).extract 0 (4 * V4 - BN) := ⟨_, rfl⟩
          rw [← hBD] at HPB ⊢
          have k00 := blk_far Q7.out (p := ⟨q, 2, none⟩) (by show rb ≠ q; omega) (.string (s.extract 4 (4 + 4 * V4)))
          have k0 := blk_far k00 (p := ⟨q, 2, none⟩) (by show rb ≠ q; omega) (.string BD)
          have k1 := blk_set k0 0 (.int .i64 (V2 : Int))
          have k2 := blk_set k1 1 (.int .i64 (V3 : Int))
          have k3 := blk_set k2 2 (.string BD)
          simp only [List.setIfInBounds_toArray, List.set_cons_zero, List.set_cons_succ] at k3
          have kB := (((((B7.out.setCell (p := ⟨q, 2, none⟩) hqw (.string (s.extract 4 (4 + 4 * V4)))).setCell (p := ⟨q, 2, none⟩) hqw (.string BD)).setCell (p := ⟨rb, 0, none⟩) hrw (.int .i64 (V2 : Int))).setCell (p := ⟨rb, 1, none⟩) hrw (.int .i64 (V3 : Int))).setCell (p := ⟨rb, 2, none⟩) hrw (.string BD))
          generalize ((((w7.setCell ⟨q, 2, none⟩ (.string (s.extract 4 (4 + 4 * V4)))).setCell ⟨q, 2, none⟩ (.string BD)).setCell ⟨rb, 0, none⟩ (.int .i64 (V2 : Int))).setCell ⟨rb, 1, none⟩ (.int .i64 (V3 : Int))).setCell ⟨rb, 2, none⟩ (.string BD) = W9 at *
          have m0 := blk_cell k3 0
          have m1 := blk_cell k3 1
          have m2 := blk_cell k3 2
          simp only [List.getElem?_toArray, List.getElem?_cons_zero, List.getElem?_cons_succ] at m0 m1 m2
          refine bodyPost_ret (v := .tuple #[.agg #[.int .i64 (V2 : Int), .int .i64 (V3 : Int), .string BD], .int .i64 (4 + 4 * (V4 : Int))]) (by simp [results, Try.results38, go_sem, m0, m1, m2]) rfl ?_
          refine ⟨.inl ⟨HE.out, ?_⟩, kB⟩
          rw [HPB.out, HPS.out, HV.out.2.2.1, HV.out.2.2.2.1]
          simp
         ·have d7 : decide ((BN : Int) ≤ 4 * (V4 : Int)) = false := decide_eq_false (by omega)
          have d7' : decide (BN ≤ 4 * V4) = false := decide_eq_false g3
          have HE := Aside0.mk (show partErr s = 91 by
           unfold partErr
           rw [if_neg (by omega), if_neg (by rw [HPS.out]; omega), if_neg (by rw [← HV.out.1]; simp), if_neg (by rw [← HV.out.2.2.2.1]; omega), if_pos]
           refine ⟨HV.out.2.1.symm, fun h => ?_⟩
           rw [HPS.out, HPD.out] at h
           omega)
          go_wp2_with fail
          refine (want_no 91 _).mono ?_
          rintro e w8 ⟨rfl, hw8⟩
          obtain rfl := hw8.symm
          go_wp2_with fail
          exact ⟨rfl, PartPost.bad HE.out (by decide) (B7.out.setCell (p := ⟨q, 2, none⟩) hqw _)⟩
        ·have d6 : (((BN : Int) % 4) == 0) = false := beq_eq_false_iff_ne.2 (by omega)
         have HE := Aside0.mk (show partErr s = 91 by
          unfold partErr
          rw [if_neg (by omega), if_neg (by rw [HPS.out]; omega), if_neg (by rw [← HV.out.1]; simp), if_neg (by rw [← HV.out.2.2.2.1]; omega), if_pos]
          refine ⟨HV.out.2.1.symm, fun h => ?_⟩
          rw [HPS.out, HPD.out] at h
          omega)
         go_wp2_with fail
         refine (want_no 91 _).mono ?_
         rintro e w8 ⟨rfl, hw8⟩
         obtain rfl := hw8.symm
         go_wp2_with fail
         exact ⟨rfl, PartPost.bad HE.out (by decide) (B7.out.setCell (p := ⟨q, 2, none⟩) hqw _)⟩
       ·have d5 : decide ((4 : Int) ≤ (BN : Int)) = false := decide_eq_false (by omega)
        have d5' : decide (4 ≤ BN) = false := decide_eq_false g1
        have HE := Aside0.mk (show partErr s = 91 by
         unfold partErr
         rw [if_neg (by omega), if_neg (by rw [HPS.out]; omega), if_neg (by rw [← HV.out.1]; simp), if_neg (by rw [← HV.out.2.2.2.1]; omega), if_pos]
         refine ⟨HV.out.2.1.symm, fun h => ?_⟩
         rw [HPS.out, HPD.out] at h
         omega)
        go_wp2_with fail
        refine (want_no 91 _).mono ?_
        rintro e w8 ⟨rfl, hw8⟩
        obtain rfl := hw8.symm
        go_wp2_with fail
        exact ⟨rfl, PartPost.bad HE.out (by decide) (B7.out.setCell (p := ⟨q, 2, none⟩) hqw _)⟩
      ·have e1 : ((4 + 4 * (V4 : Int)) == (s.size : Int)) = false := beq_eq_false_iff_ne.2 (by omega)
       have HE := Aside0.mk (show partErr s = 91 by
        unfold partErr
        rw [if_neg (by omega), if_neg (by rw [HPS.out]; omega), if_neg (by rw [← HV.out.1]; simp), if_neg (by rw [← HV.out.2.2.2.1]; omega), if_pos]
        refine ⟨HV.out.2.1.symm, fun h => ?_⟩
        rw [HPS.out] at h
        omega)
       go_wp2_with fail
       refine (want_no 91 _).mono ?_
       rintro e w8 ⟨rfl, hw8⟩
       obtain rfl := hw8.symm
       go_wp2_with fail
       exact ⟨rfl, PartPost.bad HE.out (by decide) (B7.out.setCell (p := ⟨q, 2, none⟩) hqw _)⟩
   ·have HE := Aside0.mk (show partErr s = 81 by
     unfold partErr
     rw [if_neg (by omega), if_neg (by rw [HPS.out]; omega), if_neg (by rw [← HV.out.1]; simp), if_pos (by rw [← HV.out.2.2.2.1]; omega)])
    by_cases h4 : 192 ≤ V3
    ·have d3 : decide ((192 : Int) ≤ (V3 : Int)) = true := decide_eq_true (by omega)
     have d4 : decide ((V3 : Int) ≤ 223) = false := decide_eq_false (by omega)
     have d3' : decide (192 ≤ V3) = true := decide_eq_true h4
     have d4' : decide (V3 ≤ 223) = false := decide_eq_false (by omega)
     clear h3
     go_wp2_with fail
     refine (want_no 81 _).mono ?_
     rintro e w8 ⟨rfl, hw8⟩
     obtain rfl := hw8.symm
     go_wp2_with fail
     exact ⟨rfl, PartPost.bad HE.out (by decide) B7.out⟩
    ·have d3 : decide ((192 : Int) ≤ (V3 : Int)) = false := decide_eq_false (by omega)
     have d3' : decide (192 ≤ V3) = false := decide_eq_false h4
     clear h3
     go_wp2_with fail
     refine (want_no 81 _).mono ?_
     rintro e w8 ⟨rfl, hw8⟩
     obtain rfl := hw8.symm
     go_wp2_with fail
     exact ⟨rfl, PartPost.bad HE.out (by decide) B7.out⟩
  ·have d2 : ((V0 : Int) == 2) = false := beq_eq_false_iff_ne.2 (by omega)
   have HE := Aside0.mk (show partErr s = 70 by
    unfold partErr
    rw [if_neg (by omega), if_neg (by rw [HPS.out]; omega), if_pos (by rw [← HV.out.1]; exact h2)])
   go_wp2_with fail
   refine (want_no 70 _).mono ?_
   rintro e w8 ⟨rfl, hw8⟩
   obtain rfl := hw8.symm
   go_wp2_with fail
   exact ⟨rfl, PartPost.bad HE.out (by decide) B7.out⟩
 ·have d1 : decide (4 + 4 * (V4 : Int) ≤ (s.size : Int)) = false := decide_eq_false (by omega)
  have HE := Aside0.mk (show partErr s = 60 by
   unfold partErr
   rw [if_neg (by omega), if_pos (by rw [HPS.out]; omega)])
  go_wp2_with fail
  refine (want_no 60 _).mono ?_
  rintro e w8 ⟨rfl, hw8⟩
  obtain rfl := hw8.symm
  go_wp2_with fail
  exact ⟨rfl, PartPost.bad HE.out (by decide) B7.out⟩
end Go.Proofs.Ytgakmnholegbgaa.B
end
section
namespace Go.Proofs.Ytgakmnholegbgaa.B
open Go.RowKit Go.Proofs.YtgakmnholegbgaaW.PrintWords Go.Proofs.YtgakmnholegbgaaW.PrintLast Go.Proofs.YtgakmnholegbgaaW.PrintMore
set_option linter.unusedVariables false
set_option linter.unusedSimpArgs false
theorem twcc_load (g2 : Nat) (tm : Array Value) (w : World) (u0 u1 u2 u3 u4 u5 u6 x : Value) (t2 : tm[2]?.getD undef = .pointer (some ⟨g2, 0, none⟩)) (t3 : tm[3]?.getD undef = x) (h : w.heap[g2]? = some (.cells #[u0, u1, u2, u3, u4, u5, u6] 63 (0, 0))) :
  (results Try.f40 tm).run Try.prog w = .ok (.tuple #[.agg #[u0, u1, u2, u3, u4, u5, u6], x]) w := by
 have c0 := blk_cell h 0
 have c1 := blk_cell h 1
 have c2 := blk_cell h 2
 have c3 := blk_cell h 3
 have c4 := blk_cell h 4
 have c5 := blk_cell h 5
 have c6 := blk_cell h 6
 simp only [List.getElem?_toArray, List.getElem?_cons_zero, List.getElem?_cons_succ] at c0 c1 c2 c3 c4 c5 c6
 simp [results, Try.results40, go_sem, t2, t3, c0, c1, c2, c3, c4, c5, c6]
theorem zset7 {w : World} {g2 : Nat} {u0 u1 u2 u3 u4 u5 u6 : Value} (h : w.heap[g2]? = some (.cells #[u0, u1, u2, u3, u4, u5, u6] 63 (0, 0))) (y0 y1 y2 y3 y4 y5 y6 : Value) : (((((((w.setCell ⟨g2, 0, none⟩ y0).setCell ⟨g2, 1, none⟩ y1).setCell ⟨g2, 2, none⟩ y2).setCell ⟨g2, 3, none⟩ y3).setCell ⟨g2, 4, none⟩ y4).setCell ⟨g2, 5, none⟩ y5).setCell ⟨g2, 6, none⟩ y6).heap[g2]? = some (.cells #[y0, y1, y2, y3, y4, y5, y6] 63 (0, 0)) := by
 have e_ := blk_set h 0 y0
 simp only [List.setIfInBounds_toArray, List.set_cons_zero, List.set_cons_succ] at e_
 have e_ := blk_set e_ 1 y1
 simp only [List.setIfInBounds_toArray, List.set_cons_zero, List.set_cons_succ] at e_
 have e_ := blk_set e_ 2 y2
 simp only [List.setIfInBounds_toArray, List.set_cons_zero, List.set_cons_succ] at e_
 have e_ := blk_set e_ 3 y3
 simp only [List.setIfInBounds_toArray, List.set_cons_zero, List.set_cons_succ] at e_
 have e_ := blk_set e_ 4 y4
 simp only [List.setIfInBounds_toArray, List.set_cons_zero, List.set_cons_succ] at e_
 have e_ := blk_set e_ 5 y5
 simp only [List.setIfInBounds_toArray, List.set_cons_zero, List.set_cons_succ] at e_
 have e_ := blk_set e_ 6 y6
 simp only [List.setIfInBounds_toArray, List.set_cons_zero, List.set_cons_succ] at e_
 exact e_
def TwPost (s : ByteArray) (w : World) (e : Ending) (w' : World) : Prop := ∃ vS vD, e = .returned (.tuple #[.agg #[.int .u32 (twccP s).1.sender, .int .u32 (twccP s).1.media, .int .i64 (twccP s).1.first, .int .i64 (twccP s).1.base, .int .i64 (twccP s).1.count, vS, vD], .int .i64 (twccP s).2]) ∧
 RowV w' w.heap.size 3 1 vS (twccP s).1.status.length (iV (twccP s).1.status) ∧ RowV w' w.heap.size 3 1 vD (twccP s).1.deltas.length (iV (twccP s).1.deltas) ∧ Below w.heap.size w w'
def twF (s : ByteArray) (g2 p g5 n : Nat) (q : Nat → Value) : Act := { tmps := #[.string s, q 1, .pointer (some ⟨g2, 0, none⟩), q 3, .pointer (some ⟨p, 0, none⟩), .pointer (some ⟨g5, 0, none⟩), .int .i64 n, q 7, q 8, q 9, q 10, q 11, q 12, q 13, q 14, q 15, q 16, q 17, q 18, q 19, q 20, q 21, q 22, q 23, q 24, q 25, q 26, q 27, q 28, q 29, q 30, q 31, q 32, q 33, q 34, q 35, q 36, q 37, q 38, q 39, q 40, q 41, q 42, q 43, q 44, q 45, q 46, q 47, q 48, q 49, q 50, q 51, q 52, q 53, q 54, q 55, q 56, q 57, q 58, q 59, q 60, q 61, q 62, q 63, q 64, q 65, q 66, q 67, q 68, q 69, q 70, q 71, q 72, q 73, q 74, q 75, q 76, q 77, q 78, q 79, q 80, q 81, q 82, q 83, q 84, q 85, q 86, q 87, q 88, q 89, q 90, q 91, q 92, q 93, q 94, q 95, q 96, q 97, q 98, q 99, q 100, q 101, q 102, q 103, q 104, q 105, q 106, q 107, q 108, q 109, q 110, q 111, q 112, q 113, q 114, q 115, q 116, q 117, q 118, q 119, q 120, q 121, q 122, q 123], defers := [] }
theorem row_set7 {w : World} {base : Nat} {e : TypeId} {sz : Nat} {v : Value} {n : Nat} {xs : List Value} {g2 : Nat} (h : RowV w base e sz v n xs) (hne : v.ownBlock ≠ some g2) (y0 y1 y2 y3 y4 y5 y6 : Value) :
  RowV (((((((w.setCell ⟨g2, 0, none⟩ y0).setCell ⟨g2, 1, none⟩ y1).setCell ⟨g2, 2, none⟩ y2).setCell ⟨g2, 3, none⟩ y3).setCell ⟨g2, 4, none⟩ y4).setCell ⟨g2, 5, none⟩ y5).setCell ⟨g2, 6, none⟩ y6) base e sz v n xs :=
 ((((((h.setCell (p := ⟨g2, 0, none⟩) y0 hne).setCell (p := ⟨g2, 1, none⟩) y1 hne).setCell (p := ⟨g2, 2, none⟩) y2 hne).setCell (p := ⟨g2, 3, none⟩) y3 hne).setCell (p := ⟨g2, 4, none⟩) y4 hne).setCell (p := ⟨g2, 5, none⟩) y5 hne).setCell (p := ⟨g2, 6, none⟩) y6 hne
theorem rows_apart {w w' : World} {base : Nat} {e : TypeId} {sz : Nat} {v vD : Value} {n : Nat} {xs : List Value} (h : RowV w base e sz v n xs) (g : w.grownBy w' vD.ownBlock) (hne : vD.ownBlock = none ∨ vD.ownBlock ≠ v.ownBlock) : RowV w' base e sz v n xs :=
 h.keep (fun k hk _ _ => g.block k (h.lt hk).1 (fun e => by
  rcases hne with h1 | h1
  ·rw [h1] at e
   cases e
  ·exact h1 (e.symm.trans hk.symm)))
theorem apart_next {w : World} {base : Nat} {e : TypeId} {sz : Nat} {v vD v' : Value} {n : Nat} {xs : List Value} (h : RowV w base e sz v n xs) (hne : vD.ownBlock = none ∨ vD.ownBlock ≠ v.ownBlock) (hO : ∀ k, v'.ownBlock = some k → vD.ownBlock = some k ∨ w.heap.size ≤ k) : v'.ownBlock = none ∨ v'.ownBlock ≠ v.ownBlock := by
 cases hv : v'.ownBlock with
 | none => exact .inl rfl
 | some k =>
  refine .inr (fun e => ?_)
  rcases hO k hv with h1 | h1
  ·rcases hne with h2 | h2
   ·rw [h2] at h1
    cases h1
   ·exact h2 (h1.trans e)
  ·have := (h.lt e.symm).1
   omega
def GetRes (s : ByteArray) (b : Nat) (bad : Bool) (n V b2 : Nat) (bad2 : Bool) : Prop := (bad = false ∧ b + n ≤ 8 * s.size ∧ V = rdBits s b n ∧ b2 = b + n ∧ bad2 = false) ∨ (bad = false ∧ ¬ b + n ≤ 8 * s.size ∧ V = 0 ∧ b2 = b ∧ bad2 = true) ∨ (bad = true ∧ V = 0 ∧ b2 = b ∧ bad2 = true)
theorem get_m (s : ByteArray) (b : Nat) (bad : Bool) (n : Nat) (hs : s.size ≤ 1000000) (hb : b ≤ 8 * s.size) (hn : n ≤ 32) : ∃ V b2 bad2, GetRes s b bad n V b2 bad2 ∧ V < 2 ^ n ∧ b2 ≤ 8 * s.size ∧
  ∀ (w : World) (p : Nat), RdIs w p 146 s (b : Int) bad → Calls Try.prog 58 #[.pointer (some ⟨p, 0, none⟩), .int .i64 (n : Int)] w fun e w' => e = .returned (.int .u32 (V : Int)) ∧ RdIs w' p 146 s (b2 : Int) bad2 ∧ w.grownBy w' (some p) := by
 have h2 : 0 < 2 ^ n := Nat.two_pow_pos n
 cases bad with
 | true => exact ⟨0, b, true, .inr (.inr ⟨rfl, rfl, rfl, rfl⟩), h2, hb, fun w p h => get_was w p s b n h⟩
 | false =>
  by_cases hr : b + n ≤ 8 * s.size
  ·exact ⟨rdBits s b n, b + n, false, .inl ⟨rfl, hr, rfl, rfl, rfl⟩, rdBits_lt _ _ _, hr, fun w p h => (get_good w p s b n h (by omega) hb hn hr).mono (fun e w' ⟨e1, e2, e3⟩ => ⟨e1, by rw [show ((b + n : Nat) : Int) = (b : Int) + (n : Int) by omega]; exact e2, e3⟩)⟩
  ·exact ⟨0, b, true, .inr (.inl ⟨rfl, hr, rfl, rfl, rfl⟩), h2, hb, fun w p h => get_over w p s b n h (by omega) ⟨by omega, by omega⟩ (.inr (.inr (by omega)))⟩
def Mode (s : ByteArray) (k : Nat) (l : List Int) (j : Nat) (ds : List Int) (b : Nat) (bad : Bool) : Prop := (bad = false ∧ BehindD s k l j ds b) ∨ (bad = true ∧ deltasR s k l = none)
theorem Mode.one {s : ByteArray} {k : Nat} {l : List Int} {j : Nat} {ds : List Int} {b : Nat} {bad : Bool} {V b2 : Nat} {bad2 : Bool} (h : Mode s k l j ds b bad) (hx : l[j]? = some 1) (hg : GetRes s b bad 8 V b2 bad2) : Mode s k l (j + 1) (ds ++ [(V : Int)]) b2 bad2 := by
 rcases h with ⟨rfl, h⟩ | ⟨rfl, h⟩
 ·rcases hg with ⟨_, h1, rfl, rfl, rfl⟩ | ⟨_, h1, rfl, rfl, rfl⟩ | ⟨h1, _⟩
  ·exact .inl ⟨rfl, h.one hx h1⟩
  ·exact .inr ⟨rfl, h.over1 hx h1⟩
  ·cases h1
 ·rcases hg with ⟨h1, _⟩ | ⟨h1, _⟩ | ⟨_, rfl, rfl, rfl⟩
  ·cases h1
  ·cases h1
  ·exact .inr ⟨rfl, h⟩
theorem Mode.two {s : ByteArray} {k : Nat} {l : List Int} {j : Nat} {ds : List Int} {b : Nat} {bad : Bool} {V b2 : Nat} {bad2 : Bool} (h : Mode s k l j ds b bad) (hx : l[j]? = some 2) (hg : GetRes s b bad 16 V b2 bad2) : Mode s k l (j + 1) (ds ++ [signedP V 16]) b2 bad2 := by
 rcases h with ⟨rfl, h⟩ | ⟨rfl, h⟩
 ·rcases hg with ⟨_, h1, rfl, rfl, rfl⟩ | ⟨_, h1, rfl, rfl, rfl⟩ | ⟨h1, _⟩
  ·exact .inl ⟨rfl, h.two hx h1⟩
  ·exact .inr ⟨rfl, h.over2 hx h1⟩
  ·cases h1
 ·rcases hg with ⟨h1, _⟩ | ⟨h1, _⟩ | ⟨_, rfl, rfl, rfl⟩
  ·cases h1
  ·cases h1
  ·exact .inr ⟨rfl, h⟩
theorem Mode.skip {s : ByteArray} {k : Nat} {l : List Int} {j : Nat} {ds : List Int} {b : Nat} {bad : Bool} {x : Int} (h : Mode s k l j ds b bad) (hx : l[j]? = some x) (h1 : x ≠ 1) (h2 : x ≠ 2) : Mode s k l (j + 1) ds b bad := by
 rcases h with ⟨rfl, h⟩ | ⟨rfl, h⟩
 ·exact .inl ⟨rfl, h.skip hx h1 h2⟩
 ·exact .inr ⟨rfl, h⟩
def outC (S M F : Nat) (B : Int) (C : Nat) (vS vD : Value) : Obj := .cells #[.int .u32 S, .int .u32 M, .int .i64 F, .int .i64 B, .int .i64 C, vS, vD] 63 (0, 0)
def TRel (s : ByteArray) (w0 : World) (p g2 g5 k S M F : Nat) (B : Int) (C : Nat) (l : List Int) (Av : Option Addr) (cv : Nat) (v83 : Value) (wr : World) : Prop := ∃ (j : Nat) (ds : List Int) (b : Nat) (bad : Bool) (vD : Value), v83 = .int .i64 j ∧ j ≤ l.length ∧ ds.length ≤ j ∧ b ≤ 8 * s.size ∧ Aside0 (Mode s k l j ds b bad) ∧ Aside0 (RdIs wr p 146 s (b : Int) bad) ∧ Aside0 (wr.heap[g2]? = some (.cells #[.int .u32 0, .int .u32 0, .int .i64 0, .int .i64 0, .int .i64 0, .slice none 0 0, .slice none 0 0] 63 (0, 0))) ∧
 Aside0 (wr.heap[g5]? = some (.cells #[.int .u32 S, .int .u32 M, .int .i64 F, .int .i64 B, .int .i64 C, .slice Av l.length cv, vD] 63 (0, 0))) ∧ Aside0 (RowV wr w0.heap.size 3 1 (.slice Av l.length cv) l.length (iV l)) ∧ Aside0 (RowV wr w0.heap.size 3 1 vD ds.length (iV ds)) ∧ Aside0 (vD.ownBlock = none ∨ vD.ownBlock ≠ (Value.slice Av l.length cv).ownBlock) ∧ Aside0 (Below w0.heap.size w0 wr)
def TwJ (s : ByteArray) (w0 : World) (g2 n S M F : Nat) (B : Int) (C : Nat) (a : Act) (w : World) : Prop := ∃ (p g5 k : Nat) (l : List Int) (v : Value) (q : Nat → Value), a = twF s g2 p g5 n q ∧ (k ≤ 8 * s.size ∧ w0.heap.size ≤ p ∧ w0.heap.size ≤ g5 ∧ w0.heap.size ≤ g2 ∧ g2 ≠ g5 ∧ n ≤ 4096 ∧ n ≠ 0) ∧ Aside0 (RdIs w p 146 s (k : Int) false) ∧ Aside0 (w.heap[g2]? = some (.cells #[.int .u32 0, .int .u32 0, .int .i64 0, .int .i64 0, .int .i64 0, .slice none 0 0, .slice none 0 0] 63 (0, 0))) ∧
 Aside0 (w.heap[g5]? = some (outC S M F B C v (.slice none 0 0))) ∧ Aside0 (RowV w w0.heap.size 3 1 v l.length (iV l)) ∧ l.length ≤ n ∧ Aside0 (BehindS s n l k) ∧ Aside0 (Below w0.heap.size w0 w)
theorem TwJ.mk {s : ByteArray} {w0 : World} {g2 p g5 n S M F : Nat} {B : Int} {C : Nat} {a : Act} {w : World} (k : Nat) (l : List Int) (v : Value) (h : a = twF s g2 p g5 n (fun i => a.tmps.getD i undef)) (h1 : k ≤ 8 * s.size ∧ w0.heap.size ≤ p ∧ w0.heap.size ≤ g5 ∧ w0.heap.size ≤ g2 ∧ g2 ≠ g5 ∧ n ≤ 4096 ∧ n ≠ 0) (h2 : RdIs w p 146 s (k : Int) false) (h3 : w.heap[g2]? = some (.cells #[.int .u32 0, .int .u32 0, .int .i64 0, .int .i64 0, .int .i64 0, .slice none 0 0, .slice none 0 0] 63 (0, 0)))
  (h4 : w.heap[g5]? = some (outC S M F B C v (.slice none 0 0))) (h5 : RowV w w0.heap.size 3 1 v l.length (iV l)) (h6 : l.length ≤ n) (h7 : BehindS s n l k) (h8 : Below w0.heap.size w0 w) : TwJ s w0 g2 n S M F B C a w := ⟨p, g5, k, l, v, _, h, h1, ⟨h2⟩, ⟨h3⟩, ⟨h4⟩, ⟨h5⟩, h6, ⟨h7⟩, ⟨h8⟩⟩
set_option maxHeartbeats 4000000 in
theorem twcc_short (s : ByteArray) (w : World) (hs : s.size ≤ 1000000) (E : Int) (hE : (65536 < s.size ∧ E = 2) ∨ (s.size ≤ 65536 ∧ s.size % 4 ≠ 0 ∧ E = 90) ∨ (s.size ≤ 65536 ∧ s.size % 4 = 0 ∧ s.size < 16 ∧ E = 60)) : Calls Try.prog 40 #[.string s] w (TwPost s w) := by
 have hP : twccP s = (zeroT, E) := by
  unfold twccP
  rcases hE with ⟨h, rfl⟩ | ⟨h1, h2, rfl⟩ | ⟨h1, h2, h3, rfl⟩
  ·rw [if_pos h]
  ·rw [if_neg (by omega), if_pos h2]
  ·rw [if_neg (by omega), if_neg (by omega), if_pos h3]
 have HP := Aside0.mk hP
 clear hP
 have HZ := Aside0.mk (blk_new w (.cells #[.int .u32 0, .int .u32 0, .int .i64 0, .int .i64 0, .int .i64 0, .slice none 0 0, .slice none 0 0] 63))
 rcases hE with ⟨h, rfl⟩ | ⟨h1, h2, rfl⟩ | ⟨h1, h2, h3, rfl⟩
 ·have d1 : decide (65536 < (s.size : Int)) = true := decide_eq_true (by omega)
  go_enter Try.func40, Try.ntmps40
  go_wp2_with fail
  refine wp_scope_goto 0 (fun _ _ => False) (fun _ _ => 0) rfl (fun a w hh => hh.elim) ?_
  intro hrest
  clear hrest
  go_wp2_with fail
  (try simp only [Exit.jump])
  refine bodyPost_ret (twcc_load w.heap.size _ _ _ _ _ _ _ _ _ _ rfl rfl HZ.out) rfl ?_
  exact ⟨.slice none 0 0, .slice none 0 0, by rw [HP.out]; rfl, by rw [HP.out]; exact RowV.nil _ _ _ _, by rw [HP.out]; exact RowV.nil _ _ _ _, (Below.refl _ _).alloc (Nat.le_refl _) _⟩
 ·have d1 : decide (65536 < (s.size : Int)) = false := decide_eq_false (by omega)
  have d2 : (((s.size : Int) % 4) != 0) = true := by simp; omega
  go_enter Try.func40, Try.ntmps40
  go_wp2_with fail
  refine wp_scope_goto 0 (fun _ _ => False) (fun _ _ => 0) rfl (fun a w hh => hh.elim) ?_
  intro hrest
  clear hrest
  go_wp2_with fail
  (try simp only [Exit.jump])
  refine bodyPost_ret (twcc_load w.heap.size _ _ _ _ _ _ _ _ _ _ rfl rfl HZ.out) rfl ?_
  exact ⟨.slice none 0 0, .slice none 0 0, by rw [HP.out]; rfl, by rw [HP.out]; exact RowV.nil _ _ _ _, by rw [HP.out]; exact RowV.nil _ _ _ _, (Below.refl _ _).alloc (Nat.le_refl _) _⟩
 ·have d1 : decide (65536 < (s.size : Int)) = false := decide_eq_false (by omega)
  have d2 : (((s.size : Int) % 4) != 0) = false := by simp; omega
  have d3 : decide ((s.size : Int) < 16) = true := decide_eq_true (by omega)
  go_enter Try.func40, Try.ntmps40
  go_wp2_with fail
  refine wp_scope_goto 0 (fun _ _ => False) (fun _ _ => 0) rfl (fun a w hh => hh.elim) ?_
  intro hrest
  clear hrest
  go_wp2_with fail
  (try simp only [Exit.jump])
  refine bodyPost_ret (twcc_load w.heap.size _ _ _ _ _ _ _ _ _ _ rfl rfl HZ.out) rfl ?_
  exact ⟨.slice none 0 0, .slice none 0 0, by rw [HP.out]; rfl, by rw [HP.out]; exact RowV.nil _ _ _ _, by rw [HP.out]; exact RowV.nil _ _ _ _, (Below.refl _ _).alloc (Nat.le_refl _) _⟩
set_option maxHeartbeats 16000000 in
set_option maxRecDepth 100000 in
theorem twcc_long (s : ByteArray) (w : World) (h1 : s.size ≤ 65536) (h2 : s.size % 4 = 0) (h3 : 16 ≤ s.size) : Calls Try.prog 40 #[.string s] w (TwPost s w) := by
 have d1 : decide (65536 < (s.size : Int)) = false := decide_eq_false (by omega)
 have d2 : (((s.size : Int) % 4) != 0) = false := by simp; omega
 have d3 : decide ((s.size : Int) < 16) = false := decide_eq_false (by omega)
 go_enter Try.func40, Try.ntmps40
 go_wp2_with fail
 refine wp_scope_goto 0 (TwJ s w w.heap.size (rdBits s 80 16) (rdBits s 0 32) (rdBits s 32 32) (rdBits s 64 16) (signedP (rdBits s 96 24) 24) (rdBits s 120 8)) (fun a w' => decM s a w') rfl ?_ ?_
 ·rintro a w1 ⟨p, g5, k, l, v, q, rfl, ⟨hk, hwp, hwg5, hwg2, h25, hn9, hn0⟩, RD, K2, K5, HR, hln, HBe, HB⟩
  obtain ⟨g2, hg2⟩ : ∃ g, g = w.heap.size := ⟨_, rfl⟩
  rw [← hg2] at K2 h25 ⊢
  replace hwg2 : w.heap.size ≤ g2 := Nat.le_of_eq hg2.symm
  have HG2 := Aside0.mk hg2
  clear hg2
  have HM0 := Aside0.mk (atP_is RD.out)
  have nK2 : g2 ≠ p := fun e => by have a := K2.out; have b := RD.out; rw [e] at a; unfold RdIs at b; rw [a] at b; injection b with b; injection b with _ b; exact absurd b (by decide)
  have nK5 : g5 ≠ p := fun e => by have a := K5.out; have b := RD.out; unfold outC at a; rw [e] at a; unfold RdIs at b; rw [a] at b; injection b with b; injection b with _ b; exact absurd b (by decide)
  obtain ⟨n, hn⟩ : ∃ n, n = rdBits s 80 16 := ⟨_, rfl⟩
  obtain ⟨S, hS⟩ : ∃ n, n = rdBits s 0 32 := ⟨_, rfl⟩
  obtain ⟨M, hM⟩ : ∃ n, n = rdBits s 32 32 := ⟨_, rfl⟩
  obtain ⟨F, hF⟩ : ∃ n, n = rdBits s 64 16 := ⟨_, rfl⟩
  obtain ⟨B, hB⟩ : ∃ n, n = signedP (rdBits s 96 24) 24 := ⟨_, rfl⟩
  obtain ⟨C, hC⟩ : ∃ n, n = rdBits s 120 8 := ⟨_, rfl⟩
  rw [← hn] at hln HBe hn9 hn0 ⊢
  rw [← hS, ← hM, ← hF, ← hB, ← hC] at K5 ⊢
  have Hn := Aside0.mk hn
  have HS := Aside0.mk hS
  have HM := Aside0.mk hM
  have HF := Aside0.mk hF
  have HBB := Aside0.mk hB
  have HC := Aside0.mk hC
  clear hn hS hM hF hB hC
  obtain ⟨Av, cv, rfl, hnv, hcv⟩ := HR.out.form
  unfold outC at K5
  unfold twF
  have c0 := blk_cell K5.out 0
  have c1 := blk_cell K5.out 1
  have c2 := blk_cell K5.out 2
  have c3 := blk_cell K5.out 3
  have c4 := blk_cell K5.out 4
  have c5 := blk_cell K5.out 5
  have c6 := blk_cell K5.out 6
  simp only [List.getElem?_toArray, List.getElem?_cons_zero, List.getElem?_cons_succ] at c0 c1 c2 c3 c4 c5 c6
  have fc5 := blk_frozen K5.out 5
  have fc6 := blk_frozen K5.out 6
  by_cases z1 : n - l.length = 0
  ·have q1 : decide (0 < (n : Int) - (l.length : Int)) = false := decide_eq_false (by omega)
   have HNL := Aside0.mk (show n = l.length by omega)
   have HST := Aside0.mk (HBe.out.done z1)
   go_wp2_with fail
   go_loopw [11, 83] (fun _ v83 wr => TRel s w p g2 g5 k S M F B C l Av cv v83 wr) (fun _ v _ => l.length - (intOf v).toNat)
   case atStart => exact ⟨0, [], k, false, .slice none 0 0, rfl, by omega, by simp, hk, ⟨.inl ⟨rfl, BehindD.start s k l⟩⟩, RD, K2, K5, HR, ⟨RowV.nil _ _ _ _⟩, ⟨.inl rfl⟩, HB⟩
   case round =>
    clear RD K2 K5 HR HB c0 c1 c2 c3 c4 c5 c6 fc5 fc6
    obtain ⟨j, ds, b, bad, vD, rfl, hj, hds, hb, HMo, RD, K2, K5, HR, HD, HNE, HB⟩ := hrel
    by_cases hlt : j < l.length
    ·have q4 : decide ((j : Int) < (l.length : Int)) = true := decide_eq_true (by omega)
     obtain ⟨x, hx⟩ : ∃ x, l[j]? = some x := ⟨l[j]'hlt, List.getElem?_eq_getElem hlt⟩
     obtain ⟨ga, oa, ca, e_, _, _, _, hxa⟩ := HR.out.some_ (by omega)
     injection e_ with e_ _ _
     subst e_
     have ux := hxa j (.int .i64 x) (by simp [iV, hx])
     have i0 : (0 : Int) ≤ (j : Int) := by omega
     have i1 : (j : Int) < (l.length : Int) := by omega
     have HX := Aside0.mk hx
     clear hx hxa
     by_cases hx1 : x = 1
     ·have p1 : (x == 1) = true := by rw [hx1]; rfl
      have HX1 := Aside0.mk hx1
      clear hx1
      obtain ⟨V, b2, bad2, hG, hV, hb2, hC⟩ := get_m s b bad 8 (by omega) hb (by omega)
      have HGR := Aside0.mk hG
      have CG := Aside0.mk (show ∀ (W : World), RdIs W p 146 s (b : Int) bad → Calls Try.prog 58 #[.pointer (some ⟨p, 0, none⟩), .int .i64 8] W fun e w' => e = .returned (.int .u32 (V : Int)) ∧ RdIs w' p 146 s (b2 : Int) bad2 ∧ W.grownBy w' (some p) from fun W h => hC W p h)
      have RDw : Aside0 (RdIs wr.drew p 146 s (b : Int) bad) := ⟨RD.out⟩
      clear hG hC
      have eV : wrap64 (V : Int) = (V : Int) := by unfold wrap64; omega
      obtain ⟨Ad, cd, rfl, hnd, hcd⟩ := HD.out.form
      obtain ⟨nd, hnd_⟩ : ∃ n, n = ds.length := ⟨_, rfl⟩
      rw [← hnd_] at hds hnd HD HNE K5
      have HND := Aside0.mk hnd_
      clear hnd_
      have c6 := blk_cell K5.out 6
      simp only [List.getElem?_toArray, List.getElem?_cons_zero, List.getElem?_cons_succ] at c6
      go_upto_region 26 with fail
      refine start_ (n := 9) (S := fun w' => w'.cell? ⟨g5, 6, none⟩ = some (.slice Ad nd cd)) (ds := [6, 8]) #[false, false, false, false, false, false, false, false, false] (by kernel_rfl) rfl rfl (c6) (fun hHeld => ?_)
      refine pure_ (i := 0) (N := some 90) (v := ?_) (a' := ?_) #[true, false, false, false, false, false, false, false, false] rfl rfl (by kernel_rfl) (fun _ _ _ h => h) (Or.inl ⟨by rfl, ?_⟩) ?_ ?_
      rotate_left
      ·intro w'
       go_simp
       with_reducible rfl
      rotate_left
      ·simp only [Act.put, List.setIfInBounds_toArray, List.set_cons_zero, List.set_cons_succ, i64_w, i32_w]
       rfl
      refine pure_ (i := 2) (N := some 92) (v := ?_) (a' := ?_) #[true, false, true, false, false, false, false, false, false] rfl rfl (by kernel_rfl) (fun _ _ _ h => h) (Or.inl ⟨by rfl, ?_⟩) ?_ ?_
      rotate_left
      ·intro w'
       go_simp
       with_reducible rfl
      rotate_left
      ·simp only [Act.put, List.setIfInBounds_toArray, List.set_cons_zero, List.set_cons_succ, i64_w, i32_w]
       rfl
      refine take_ (i := 1) (N := some 91) (v := ?_) (a' := ?_) #[true, true, true, false, false, false, false, false, false] rfl rfl (by kernel_rfl) (fun _ _ _ h => h) (Or.inl ⟨by rfl, ?_⟩) hHeld ?_ ?_
      rotate_left
      ·intro w' s0
       go_simp
       with_reducible rfl
      rotate_left
      ·simp only [Act.put, List.setIfInBounds_toArray, List.set_cons_zero, List.set_cons_succ, i64_w, i32_w]
       rfl
      refine one_ (i := 3) (N := some 93) #[true, true, true, true, false, false, false, false, false] rfl rfl (by kernel_rfl) (by decide) (fun K hK => ?_)
      refine goes_ Try.func58 (by kernel_rfl) rfl #[.pointer (some ⟨p, 0, none⟩), .int .i64 8] (by rfl) rfl rfl (by simp only [List.map_toArray, List.map_cons, List.map_nil]; rfl) ?_
      with_reducible refine (CG.out _ RDw.out).mono ?_
      rintro e w3 ⟨rfl, hr3, hg3⟩
      refine ⟨_, rfl, ?_⟩
      have Y5 := gb_blk hg3 K5.out (fun k hk => by injection hk with hk; subst hk; exact nK5)
      have Y2 := Aside0.mk (gb_blk hg3 K2.out (fun k hk => by injection hk with hk; subst hk; exact nK2))
      have YD := Aside0.mk (RowV.gb (w := wr.drew) HD.out hg3 (fun k hk => by injection hk with hk; subst hk; exact HD.out.ne RD.out (by decide)))
      have YR := Aside0.mk (RowV.gb (w := wr.drew) HR.out hg3 (fun k hk => by injection hk with hk; subst hk; exact HR.out.ne RD.out (by decide)))
      have YB := Aside0.mk (gb_below HB.out.drew hwp hg3)
      have YG := Aside0.mk hr3
      have y6 := blk_cell Y5 6
      simp only [List.getElem?_toArray, List.getElem?_cons_zero, List.getElem?_cons_succ] at y6
      have z6 : ∀ o, (w3.alloc o).cell? ⟨g5, 6, none⟩ = some (.slice Ad nd cd) := fun o => (World.cell?_alloc_past _ _ _ (blk_lt Y5)).trans y6
      have HY5 := Aside0.mk Y5
      clear Y5 hr3 hg3
      refine hK.out _ _ (y6) (fun hHeld => ?_)
      clear hK K
      refine norm_ (a' := ?_) ?_ ?_
      rotate_left
      ·show Act.put _ (some 93) _ = _
       simp only [Act.put, List.setIfInBounds_toArray, List.set_cons_zero, List.set_cons_succ, i64_w, i32_w]
       rfl
      refine pure_ (i := 4) (N := some 94) (v := ?_) (a' := ?_) #[true, true, true, true, true, false, false, false, false] rfl rfl (by kernel_rfl) (fun _ _ _ h => h) (Or.inl ⟨by rfl, ?_⟩) ?_ ?_
      rotate_left
      ·intro w'
       go_simp
       with_reducible rfl
      rotate_left
      ·simp only [Act.put, List.setIfInBounds_toArray, List.set_cons_zero, List.set_cons_succ, i64_w, i32_w]
       rfl
      refine one_ (i := 5) (N := some 95) #[true, true, true, true, true, true, false, false, false] rfl rfl (by kernel_rfl) (by decide) (fun K hK => ?_)
      refine value_ (w1 := ?_) (v := ?_) (by rfl) rfl ?_ ?_
      rotate_left 2
      ·go_simp
       constructor
       ·rfl
       ·rfl
      refine hK.out _ _ ((z6 _)) (fun hHeld => ?_)
      clear hK K
      refine norm_ (a' := ?_) ?_ ?_
      rotate_left
      ·show Act.put _ (some 95) _ = _
       simp only [Act.put, List.setIfInBounds_toArray, List.set_cons_zero, List.set_cons_succ, i64_w, i32_w]
       rfl
      refine last_ (i := 6) (N := some 96) #[true, true, true, true, true, true, true, false, false] rfl rfl (by kernel_rfl) (by decide) (fun K hK => ?_)
      have XD1 := Aside0.mk (YD.out.alloc (.cells #[.int .i64 (V : Int)] 3))
      have XR1 := Aside0.mk (YR.out.alloc (.cells #[.int .i64 (V : Int)] 3))
      have X51 := Aside0.mk (gb_blk (World.grownBy_alloc w3 (.cells #[.int .i64 (V : Int)] 3) none) HY5.out (fun k hk => by cases hk))
      have X21 := Aside0.mk (gb_blk (World.grownBy_alloc w3 (.cells #[.int .i64 (V : Int)] 3) none) Y2.out (fun k hk => by cases hk))
      have XG1 := Aside0.mk (gb_blk (World.grownBy_alloc w3 (.cells #[.int .i64 (V : Int)] 3) none) YG.out (fun k hk => by cases hk))
      have XB1 := Aside0.mk (YB.out.alloc (o := .cells #[.int .i64 (V : Int)] 3) YB.out.size)
      have HBX : Aside0 (w.heap.size ≤ (w3.alloc (.cells #[.int .i64 (V : Int)] 3)).heap.size) := ⟨XB1.out.size⟩
      refine row_append_step (w := w3.alloc (.cells #[.int .i64 (V : Int)] 3)) (.tmp 91) (.tmp 95) 24 rfl 3 Try.t3 (.int .i64 0) 1 8 Try.underlying24 (by kernel_rfl) rfl rfl rfl (by decide) (by decide) w.heap.size (.slice Ad nd cd) nd (iV ds) (by rfl) XD1.out ⟨w3.heap.size, 0, none⟩ 1 1 [.int .i64 (V : Int)] (by rfl) rfl (new_news w3 _ _) (by simp [Value.oneCell']) (by simp only [maxLen]; omega) (by omega) HBX.out ?_
      intro v1 w6 hR6 hG6 hO6 hF6
      obtain ⟨g6, o6, c6_, rfl, hb6, hn6, hc6, hx6⟩ := hR6.some_ (by omega)
      have X5 := gb_blkR hG6 XD1.out X51.out (by decide)
      have X2 := Aside0.mk (gb_blkR hG6 XD1.out X21.out (by decide))
      have XG := Aside0.mk (gb_blkR hG6 XD1.out XG1.out (by decide))
      have XB := Aside0.mk (below_new XB1.out hG6 (fun k hk => (XD1.out.lt hk).2.1))
      have XR := Aside0.mk (rows_apart XR1.out hG6 HNE.out)
      have XNE := Aside0.mk (apart_next XR1.out HNE.out hO6)
      have u6 := blk_cell X5 6
      have u6f := blk_frozen X5 6
      simp only [List.getElem?_toArray, List.getElem?_cons_zero, List.getElem?_cons_succ] at u6
      have HR6 := Aside0.mk hR6
      have HX5 := Aside0.mk X5
      clear X5 hx6 hR6 hG6 hO6 hF6
      refine hK.out _ _ ?_
      clear hK K
      refine norm_ (a' := ?_) ?_ ?_
      rotate_left
      ·show Act.put _ (some 96) _ = _
       simp only [Act.put, List.setIfInBounds_toArray, List.set_cons_zero, List.set_cons_succ, i64_w, i32_w]
       rfl
      refine pure_ (i := 7) (N := some 97) (v := ?_) (a' := ?_) #[true, true, true, true, true, true, true, true, false] rfl rfl (by kernel_rfl) (fun _ _ _ h => h) (Or.inl ⟨by rfl, ?_⟩) ?_ ?_
      rotate_left
      ·intro w'
       go_simp
       with_reducible rfl
      rotate_left
      ·simp only [Act.put, List.setIfInBounds_toArray, List.set_cons_zero, List.set_cons_succ, i64_w, i32_w]
       rfl
      refine last_ (i := 8) (N := none) #[true, true, true, true, true, true, true, true, true] rfl rfl (by kernel_rfl) (by decide) (fun K hK => ?_)
      refine skip_ (w1 := ?_) (by rfl) rfl ?_ ?_
      rotate_left
      ·go_simp
       rfl
      refine hK.out _ _ ?_
      clear hK K
      refine done_ (by kernel_rfl) ?_
      go_wp2_with fail
      have e_ := blk_set HX5.out 6 (.slice (some ⟨g6, o6, none⟩) (nd + 1) c6_)
      simp only [List.setIfInBounds_toArray, List.set_cons_zero, List.set_cons_succ] at e_
      have hdl : (ds ++ [(V : Int)]).length = nd + 1 := by rw [List.length_append, ← HND.out]; rfl
      refine ⟨⟨j + 1, ds ++ [(V : Int)], b2, bad2, .slice (some ⟨g6, o6, none⟩) (nd + 1) c6_, by simp, by omega, by omega, hb2, ⟨HMo.out.one (by rw [HX.out, HX1.out]) HGR.out⟩, ⟨?_⟩, ⟨?_⟩, ⟨e_⟩, ⟨?_⟩, ⟨?_⟩, XNE, ⟨?_⟩⟩, by simp [intOf]; omega⟩
      ·exact (Below.heap_setCell w6 (⟨g5, 6, none⟩ : Addr) _ p nK5.symm).trans XG.out
      ·exact (Below.heap_setCell w6 (⟨g5, 6, none⟩ : Addr) _ g2 h25).trans X2.out
      ·exact XR.out.setCell (p := ⟨g5, 6, none⟩) _ (XR.out.ne HX5.out (by decide))
      ·rw [hdl, iV_snoc]
       exact HR6.out.setCell (p := ⟨g5, 6, none⟩) _ (HR6.out.ne HX5.out (by decide))
      ·exact XB.out.setCell (p := ⟨g5, 6, none⟩) hwg5 _
     ·have p1 : (x == 1) = false := by simp [hx1]
      by_cases hx2 : x = 2
      ·have p2 : (x == 2) = true := by rw [hx2]; rfl
       have HX2 := Aside0.mk hx2
       clear hx2 hx1
       obtain ⟨V, b2, bad2, hG, hV, hb2, hC⟩ := get_m s b bad 16 (by omega) hb (by omega)
       have HGR := Aside0.mk hG
       have CG := Aside0.mk (show ∀ (W : World), RdIs W p 146 s (b : Int) bad → Calls Try.prog 58 #[.pointer (some ⟨p, 0, none⟩), .int .i64 16] W fun e w' => e = .returned (.int .u32 (V : Int)) ∧ RdIs w' p 146 s (b2 : Int) bad2 ∧ W.grownBy w' (some p) from fun W h => hC W p h)
       have RDw : Aside0 (RdIs wr.drew p 146 s (b : Int) bad) := ⟨RD.out⟩
       obtain ⟨SV, hSV⟩ : ∃ SV, SV = signedP V 16 := ⟨_, rfl⟩
       have SG : Aside0 (∀ W : World, Calls Try.prog 62 #[.int .u32 (V : Int), .int .i64 16] W fun e w' => e = .returned (.int .i64 SV) ∧ W = w') := ⟨fun W => (signed16 V W (by omega)).mono (fun e w' ⟨e1, e2⟩ => ⟨by rw [hSV]; exact e1, e2.symm⟩)⟩
       have HSV := Aside0.mk hSV
       clear hG hC hSV
       obtain ⟨Ad, cd, rfl, hnd, hcd⟩ := HD.out.form
       obtain ⟨nd, hnd_⟩ : ∃ n, n = ds.length := ⟨_, rfl⟩
       rw [← hnd_] at hds hnd HD HNE K5
       have HND := Aside0.mk hnd_
       clear hnd_
       have c6 := blk_cell K5.out 6
       simp only [List.getElem?_toArray, List.getElem?_cons_zero, List.getElem?_cons_succ] at c6
       go_upto_region 28 with fail
       refine start_ (n := 9) (S := fun w' => w'.cell? ⟨g5, 6, none⟩ = some (.slice Ad nd cd)) (ds := [6, 8]) #[false, false, false, false, false, false, false, false, false] (by kernel_rfl) rfl rfl (c6) (fun hHeld => ?_)
       refine pure_ (i := 0) (N := some 100) (v := ?_) (a' := ?_) #[true, false, false, false, false, false, false, false, false] rfl rfl (by kernel_rfl) (fun _ _ _ h => h) (Or.inl ⟨by rfl, ?_⟩) ?_ ?_
       rotate_left
       ·intro w'
        go_simp
        with_reducible rfl
       rotate_left
       ·simp only [Act.put, List.setIfInBounds_toArray, List.set_cons_zero, List.set_cons_succ, i64_w, i32_w]
        rfl
       refine pure_ (i := 2) (N := some 102) (v := ?_) (a' := ?_) #[true, false, true, false, false, false, false, false, false] rfl rfl (by kernel_rfl) (fun _ _ _ h => h) (Or.inl ⟨by rfl, ?_⟩) ?_ ?_
       rotate_left
       ·intro w'
        go_simp
        with_reducible rfl
       rotate_left
       ·simp only [Act.put, List.setIfInBounds_toArray, List.set_cons_zero, List.set_cons_succ, i64_w, i32_w]
        rfl
       refine take_ (i := 1) (N := some 101) (v := ?_) (a' := ?_) #[true, true, true, false, false, false, false, false, false] rfl rfl (by kernel_rfl) (fun _ _ _ h => h) (Or.inl ⟨by rfl, ?_⟩) hHeld ?_ ?_
       rotate_left
       ·intro w' s0
        go_simp
        with_reducible rfl
       rotate_left
       ·simp only [Act.put, List.setIfInBounds_toArray, List.set_cons_zero, List.set_cons_succ, i64_w, i32_w]
        rfl
       refine one_ (i := 3) (N := some 103) #[true, true, true, true, false, false, false, false, false] rfl rfl (by kernel_rfl) (by decide) (fun K hK => ?_)
       refine goes_ Try.func58 (by kernel_rfl) rfl #[.pointer (some ⟨p, 0, none⟩), .int .i64 16] (by rfl) rfl rfl (by simp only [List.map_toArray, List.map_cons, List.map_nil]; rfl) ?_
       with_reducible refine (CG.out _ RDw.out).mono ?_
       rintro e w3 ⟨rfl, hr3, hg3⟩
       refine ⟨_, rfl, ?_⟩
       have Y5 := gb_blk hg3 K5.out (fun k hk => by injection hk with hk; subst hk; exact nK5)
       have Y2 := Aside0.mk (gb_blk hg3 K2.out (fun k hk => by injection hk with hk; subst hk; exact nK2))
       have YD := Aside0.mk (RowV.gb (w := wr.drew) HD.out hg3 (fun k hk => by injection hk with hk; subst hk; exact HD.out.ne RD.out (by decide)))
       have YR := Aside0.mk (RowV.gb (w := wr.drew) HR.out hg3 (fun k hk => by injection hk with hk; subst hk; exact HR.out.ne RD.out (by decide)))
       have YB := Aside0.mk (gb_below HB.out.drew hwp hg3)
       have YG := Aside0.mk hr3
       have y6 := blk_cell Y5 6
       simp only [List.getElem?_toArray, List.getElem?_cons_zero, List.getElem?_cons_succ] at y6
       have z6 : ∀ o, (w3.alloc o).cell? ⟨g5, 6, none⟩ = some (.slice Ad nd cd) := fun o => (World.cell?_alloc_past _ _ _ (blk_lt Y5)).trans y6
       have HY5 := Aside0.mk Y5
       clear Y5 hr3 hg3
       refine hK.out _ _ (y6) (fun hHeld => ?_)
       clear hK K
       refine norm_ (a' := ?_) ?_ ?_
       rotate_left
       ·show Act.put _ (some 103) _ = _
        simp only [Act.put, List.setIfInBounds_toArray, List.set_cons_zero, List.set_cons_succ, i64_w, i32_w]
        rfl
       refine one_ (i := 4) (N := some 104) #[true, true, true, true, true, false, false, false, false] rfl rfl (by kernel_rfl) (by decide) (fun K hK => ?_)
       refine goes_ Try.func62 (by kernel_rfl) rfl #[.int .u32 (V : Int), .int .i64 16] (by rfl) rfl rfl (by simp only [List.map_toArray, List.map_cons, List.map_nil]; rfl) ?_
       with_reducible refine (SG.out _).mono ?_
       rintro e w4 ⟨rfl, rfl⟩
       refine ⟨_, rfl, ?_⟩
       refine hK.out _ _ (y6) (fun hHeld => ?_)
       clear hK K
       refine norm_ (a' := ?_) ?_ ?_
       rotate_left
       ·show Act.put _ (some 104) _ = _
        simp only [Act.put, List.setIfInBounds_toArray, List.set_cons_zero, List.set_cons_succ, i64_w, i32_w]
        rfl
       refine one_ (i := 5) (N := some 105) #[true, true, true, true, true, true, false, false, false] rfl rfl (by kernel_rfl) (by decide) (fun K hK => ?_)
       refine value_ (w1 := ?_) (v := ?_) (by rfl) rfl ?_ ?_
       rotate_left 2
       ·go_simp
        constructor
        ·rfl
        ·rfl
       refine hK.out _ _ ((z6 _)) (fun hHeld => ?_)
       clear hK K
       refine norm_ (a' := ?_) ?_ ?_
       rotate_left
       ·show Act.put _ (some 105) _ = _
        simp only [Act.put, List.setIfInBounds_toArray, List.set_cons_zero, List.set_cons_succ, i64_w, i32_w]
        rfl
       refine last_ (i := 6) (N := some 106) #[true, true, true, true, true, true, true, false, false] rfl rfl (by kernel_rfl) (by decide) (fun K hK => ?_)
       have XD1 := Aside0.mk (YD.out.alloc (.cells #[.int .i64 SV] 3))
       have XR1 := Aside0.mk (YR.out.alloc (.cells #[.int .i64 SV] 3))
       have X51 := Aside0.mk (gb_blk (World.grownBy_alloc w3 (.cells #[.int .i64 SV] 3) none) HY5.out (fun k hk => by cases hk))
       have X21 := Aside0.mk (gb_blk (World.grownBy_alloc w3 (.cells #[.int .i64 SV] 3) none) Y2.out (fun k hk => by cases hk))
       have XG1 := Aside0.mk (gb_blk (World.grownBy_alloc w3 (.cells #[.int .i64 SV] 3) none) YG.out (fun k hk => by cases hk))
       have XB1 := Aside0.mk (YB.out.alloc (o := .cells #[.int .i64 SV] 3) YB.out.size)
       have HBX : Aside0 (w.heap.size ≤ (w3.alloc (.cells #[.int .i64 SV] 3)).heap.size) := ⟨XB1.out.size⟩
       refine row_append_step (w := w3.alloc (.cells #[.int .i64 SV] 3)) (.tmp 101) (.tmp 105) 24 rfl 3 Try.t3 (.int .i64 0) 1 8 Try.underlying24 (by kernel_rfl) rfl rfl rfl (by decide) (by decide) w.heap.size (.slice Ad nd cd) nd (iV ds) (by rfl) XD1.out ⟨w3.heap.size, 0, none⟩ 1 1 [.int .i64 SV] (by rfl) rfl (new_news w3 _ _) (by simp [Value.oneCell']) (by simp only [maxLen]; omega) (by omega) HBX.out ?_
       intro v1 w6 hR6 hG6 hO6 hF6
       obtain ⟨g6, o6, c6_, rfl, hb6, hn6, hc6, hx6⟩ := hR6.some_ (by omega)
       have X5 := gb_blkR hG6 XD1.out X51.out (by decide)
       have X2 := Aside0.mk (gb_blkR hG6 XD1.out X21.out (by decide))
       have XG := Aside0.mk (gb_blkR hG6 XD1.out XG1.out (by decide))
       have XB := Aside0.mk (below_new XB1.out hG6 (fun k hk => (XD1.out.lt hk).2.1))
       have XR := Aside0.mk (rows_apart XR1.out hG6 HNE.out)
       have XNE := Aside0.mk (apart_next XR1.out HNE.out hO6)
       have u6 := blk_cell X5 6
       have u6f := blk_frozen X5 6
       simp only [List.getElem?_toArray, List.getElem?_cons_zero, List.getElem?_cons_succ] at u6
       have HR6 := Aside0.mk hR6
       have HX5 := Aside0.mk X5
       clear X5 hx6 hR6 hG6 hO6 hF6
       refine hK.out _ _ ?_
       clear hK K
       refine norm_ (a' := ?_) ?_ ?_
       rotate_left
       ·show Act.put _ (some 106) _ = _
        simp only [Act.put, List.setIfInBounds_toArray, List.set_cons_zero, List.set_cons_succ, i64_w, i32_w]
        rfl
       refine pure_ (i := 7) (N := some 107) (v := ?_) (a' := ?_) #[true, true, true, true, true, true, true, true, false] rfl rfl (by kernel_rfl) (fun _ _ _ h => h) (Or.inl ⟨by rfl, ?_⟩) ?_ ?_
       rotate_left
       ·intro w'
        go_simp
        with_reducible rfl
       rotate_left
       ·simp only [Act.put, List.setIfInBounds_toArray, List.set_cons_zero, List.set_cons_succ, i64_w, i32_w]
        rfl
       refine last_ (i := 8) (N := none) #[true, true, true, true, true, true, true, true, true] rfl rfl (by kernel_rfl) (by decide) (fun K hK => ?_)
       refine skip_ (w1 := ?_) (by rfl) rfl ?_ ?_
       rotate_left
       ·go_simp
        rfl
       refine hK.out _ _ ?_
       clear hK K
       refine done_ (by kernel_rfl) ?_
       go_wp2_with fail
       have e_ := blk_set HX5.out 6 (.slice (some ⟨g6, o6, none⟩) (nd + 1) c6_)
       simp only [List.setIfInBounds_toArray, List.set_cons_zero, List.set_cons_succ] at e_
       have hdl : (ds ++ [SV]).length = nd + 1 := by rw [List.length_append, ← HND.out]; rfl
       refine ⟨⟨j + 1, ds ++ [SV], b2, bad2, .slice (some ⟨g6, o6, none⟩) (nd + 1) c6_, by simp, by omega, by omega, hb2, ⟨by rw [HSV.out]; exact HMo.out.two (by rw [HX.out, HX2.out]) HGR.out⟩, ⟨?_⟩, ⟨?_⟩, ⟨e_⟩, ⟨?_⟩, ⟨?_⟩, XNE, ⟨?_⟩⟩, by simp [intOf]; omega⟩
       ·exact (Below.heap_setCell w6 (⟨g5, 6, none⟩ : Addr) _ p nK5.symm).trans XG.out
       ·exact (Below.heap_setCell w6 (⟨g5, 6, none⟩ : Addr) _ g2 h25).trans X2.out
       ·exact XR.out.setCell (p := ⟨g5, 6, none⟩) _ (XR.out.ne HX5.out (by decide))
       ·rw [hdl, iV_snoc]
        exact HR6.out.setCell (p := ⟨g5, 6, none⟩) _ (HR6.out.ne HX5.out (by decide))
       ·exact XB.out.setCell (p := ⟨g5, 6, none⟩) hwg5 _
      ·have p2 : (x == 2) = false := by simp [hx2]
       have HMn := Aside0.mk (HMo.out.skip HX.out hx1 hx2)
       clear hx1 hx2
       go_wp2_with fail
       exact ⟨⟨j + 1, ds, b, bad, vD, by simp, by omega, by omega, hb, HMn, RD, K2, K5, HR, HD, HNE, HB⟩, by simp [intOf]; omega⟩
    ·have hjl : j = l.length := by omega
     have q4 : decide ((j : Int) < (l.length : Int)) = false := decide_eq_false (by omega)
     rw [hjl] at HMo
     clear hjl
     obtain ⟨ga, oa, ca, e_⟩ : ∃ a b c, Av = some (⟨a, b, c⟩ : Addr) ∨ Av = none := by
      cases Av with
      | none => exact ⟨0, 0, none, .inr rfl⟩
      | some a => exact ⟨a.block, a.off, a.spot, .inl rfl⟩
     clear e_
     go_wp2_with fail
     refine (bad_any wr p s (b : Int) bad RD.out).mono ?_
     rintro e w8 ⟨rfl, hw8⟩
     obtain rfl := hw8.symm
     rcases HMo.out with ⟨rfl, hBD⟩ | ⟨rfl, hBD⟩
     ·have HDD := Aside0.mk hBD.done
      clear hBD
      go_wp2_with fail
      refine (left_any wr p s (b : Int) RD.out (by omega) (by omega) (by omega)).mono ?_
      rintro e w9 ⟨rfl, hd⟩
      replace RD := Aside0.mk (gb_blk (gb_drawn0 hd none) RD.out (fun k hk => by cases hk))
      replace K2 := Aside0.mk (gb_blk (gb_drawn0 hd none) K2.out (fun k hk => by cases hk))
      replace K5 := Aside0.mk (gb_blk (gb_drawn0 hd none) K5.out (fun k hk => by cases hk))
      replace HR := Aside0.mk (HR.out.below hd.below)
      replace HD := Aside0.mk (HD.out.below hd.below)
      replace HB := Aside0.mk (below_drawn2 HB.out hd)
      clear hd
      obtain ⟨left, hleft⟩ : ∃ x, x = 8 * s.size - b := ⟨_, rfl⟩
      rw [show 8 * (s.size : Int) - (b : Int) = (left : Int) by omega]
      by_cases zl : 24 < left
      ·have q5 : decide (24 < (left : Int)) = true := decide_eq_true (by omega)
       have HP := Aside0.mk (show twccP s = (zeroT, 91) by unfold twccP; rw [if_neg (by omega), if_neg (by omega), if_neg (by omega), ← Hn.out, if_neg (by omega), if_neg (by omega), HST.out]; dsimp only; rw [HDD.out]; dsimp only; rw [← hleft, if_pos (.inl zl)])
       clear hleft
       have x0 := blk_cell K2.out 0
       have x1 := blk_cell K2.out 1
       have x2 := blk_cell K2.out 2
       have x3 := blk_cell K2.out 3
       have x4 := blk_cell K2.out 4
       have x5 := blk_cell K2.out 5
       have x6 := blk_cell K2.out 6
       simp only [List.getElem?_toArray, List.getElem?_cons_zero, List.getElem?_cons_succ] at x0 x1 x2 x3 x4 x5 x6
       have fx0 := blk_frozen K2.out 0
       have fx1 := blk_frozen K2.out 1
       have fx2 := blk_frozen K2.out 2
       have fx3 := blk_frozen K2.out 3
       have fx4 := blk_frozen K2.out 4
       have fx5 := blk_frozen K2.out 5
       have fx6 := blk_frozen K2.out 6
       go_wp2_with fail
       (try simp only [Exit.jump])
       refine bodyPost_ret (twcc_load g2 _ _ _ _ _ _ _ _ _ _ rfl rfl (zset7 K2.out (.int .u32 0) (.int .u32 0) (.int .i64 0) (.int .i64 0) (.int .i64 0) (.slice none 0 0) (.slice none 0 0))) rfl ?_
       exact ⟨.slice none 0 0, .slice none 0 0, by rw [HP.out]; rfl, by rw [HP.out]; exact RowV.nil _ _ _ _, by rw [HP.out]; exact RowV.nil _ _ _ _, (((((((HB.out.setCell (p := ⟨g2, 0, none⟩) hwg2 _).setCell (p := ⟨g2, 1, none⟩) hwg2 _).setCell (p := ⟨g2, 2, none⟩) hwg2 _).setCell (p := ⟨g2, 3, none⟩) hwg2 _).setCell (p := ⟨g2, 4, none⟩) hwg2 _).setCell (p := ⟨g2, 5, none⟩) hwg2 _).setCell (p := ⟨g2, 6, none⟩) hwg2 _)⟩
      ·have q5 : decide (24 < (left : Int)) = false := decide_eq_false (by omega)
       obtain ⟨V, b2, bad2, hG, hV, hb2, hC⟩ := get_m s b false left (by omega) hb (by omega)
       have hVV : V = rdBits s b left := by
        rcases hG with ⟨_, _, h, _⟩ | ⟨_, h, _⟩ | ⟨h, _⟩
        ·exact h
        ·exact absurd (by omega) h
        ·cases h
       have HLEFT := Aside0.mk hleft
       have HVV := Aside0.mk hVV
       have CG := Aside0.mk (hC w9 p RD.out)
       clear hG hC hV hb2 hleft hVV
       go_wp2_with fail
       refine CG.out.mono ?_
       rintro e wa ⟨rfl, hr_, hg_⟩
       replace HR := Aside0.mk (HR.out.gb hg_ (fun k hk => by injection hk with hk; subst hk; exact HR.out.ne RD.out (by decide)))
       replace HD := Aside0.mk (HD.out.gb hg_ (fun k hk => by injection hk with hk; subst hk; exact HD.out.ne RD.out (by decide)))
       replace K2 := Aside0.mk (gb_blk hg_ K2.out (fun k hk => by injection hk with hk; subst hk; exact nK2))
       replace K5 := Aside0.mk (gb_blk hg_ K5.out (fun k hk => by injection hk with hk; subst hk; exact nK5))
       replace HB := Aside0.mk (gb_below HB.out hwp hg_)
       clear hg_ hr_ RD CG
       by_cases hV0 : V = 0
       ·have q6 : ((V : Int) != 0) = false := by rw [hV0]; rfl
        have HP := Aside0.mk (show twccP s = (⟨(S : Int), (M : Int), (F : Int), B, (C : Int), l, ds⟩, 0) by unfold twccP; rw [if_neg (by omega), if_neg (by omega), if_neg (by omega), ← Hn.out, if_neg (by omega), if_neg (by omega), HST.out]; dsimp only; rw [HDD.out]; dsimp only; rw [← HLEFT.out, if_neg (fun h => h.elim zl (fun h => h (by rw [← HVV.out]; exact hV0)))]; rw [HS.out, HM.out, HF.out, HBB.out, HC.out])
        have HV0 := Aside0.mk hV0
        clear hV0
        obtain ⟨Ad, cd, rfl, hnd, hcd⟩ := HD.out.form
        have c0 := blk_cell K5.out 0
        have c1 := blk_cell K5.out 1
        have c2 := blk_cell K5.out 2
        have c3 := blk_cell K5.out 3
        have c4 := blk_cell K5.out 4
        have c5 := blk_cell K5.out 5
        have c6 := blk_cell K5.out 6
        simp only [List.getElem?_toArray, List.getElem?_cons_zero, List.getElem?_cons_succ] at c0 c1 c2 c3 c4 c5 c6
        have x0 := blk_cell K2.out 0
        have x1 := blk_cell K2.out 1
        have x2 := blk_cell K2.out 2
        have x3 := blk_cell K2.out 3
        have x4 := blk_cell K2.out 4
        have x5 := blk_cell K2.out 5
        have x6 := blk_cell K2.out 6
        simp only [List.getElem?_toArray, List.getElem?_cons_zero, List.getElem?_cons_succ] at x0 x1 x2 x3 x4 x5 x6
        have fx0 := blk_frozen K2.out 0
        have fx1 := blk_frozen K2.out 1
        have fx2 := blk_frozen K2.out 2
        have fx3 := blk_frozen K2.out 3
        have fx4 := blk_frozen K2.out 4
        have fx5 := blk_frozen K2.out 5
        have fx6 := blk_frozen K2.out 6
        go_wp2_with fail
        (try simp only [Exit.jump])
        have hn1 := HR.out.ne K2.out (by decide)
        have hn2 := HD.out.ne K2.out (by decide)
        refine bodyPost_ret (twcc_load g2 _ _ _ _ _ _ _ _ _ _ rfl rfl (zset7 K2.out (.int .u32 (S : Int)) (.int .u32 (M : Int)) (.int .i64 (F : Int)) (.int .i64 B) (.int .i64 (C : Int)) (.slice Av l.length cv) (.slice Ad ds.length cd))) rfl ?_
        exact ⟨.slice Av l.length cv, .slice Ad ds.length cd, by rw [HP.out]; rfl, by rw [HP.out]; exact row_set7 HR.out hn1 _ _ _ _ _ _ _, by rw [HP.out]; exact row_set7 HD.out hn2 _ _ _ _ _ _ _, (((((((HB.out.setCell (p := ⟨g2, 0, none⟩) hwg2 _).setCell (p := ⟨g2, 1, none⟩) hwg2 _).setCell (p := ⟨g2, 2, none⟩) hwg2 _).setCell (p := ⟨g2, 3, none⟩) hwg2 _).setCell (p := ⟨g2, 4, none⟩) hwg2 _).setCell (p := ⟨g2, 5, none⟩) hwg2 _).setCell (p := ⟨g2, 6, none⟩) hwg2 _)⟩
       ·have q6 : ((V : Int) != 0) = true := by simp; omega
        have HP := Aside0.mk (show twccP s = (zeroT, 91) by unfold twccP; rw [if_neg (by omega), if_neg (by omega), if_neg (by omega), ← Hn.out, if_neg (by omega), if_neg (by omega), HST.out]; dsimp only; rw [HDD.out]; dsimp only; rw [← HLEFT.out, if_pos (.inr (by rw [← HVV.out]; exact hV0))])
        clear hV0
        have x0 := blk_cell K2.out 0
        have x1 := blk_cell K2.out 1
        have x2 := blk_cell K2.out 2
        have x3 := blk_cell K2.out 3
        have x4 := blk_cell K2.out 4
        have x5 := blk_cell K2.out 5
        have x6 := blk_cell K2.out 6
        simp only [List.getElem?_toArray, List.getElem?_cons_zero, List.getElem?_cons_succ] at x0 x1 x2 x3 x4 x5 x6
        have fx0 := blk_frozen K2.out 0
        have fx1 := blk_frozen K2.out 1
        have fx2 := blk_frozen K2.out 2
        have fx3 := blk_frozen K2.out 3
        have fx4 := blk_frozen K2.out 4
        have fx5 := blk_frozen K2.out 5
        have fx6 := blk_frozen K2.out 6
        go_wp2_with fail
        (try simp only [Exit.jump])
        refine bodyPost_ret (twcc_load g2 _ _ _ _ _ _ _ _ _ _ rfl rfl (zset7 K2.out (.int .u32 0) (.int .u32 0) (.int .i64 0) (.int .i64 0) (.int .i64 0) (.slice none 0 0) (.slice none 0 0))) rfl ?_
        exact ⟨.slice none 0 0, .slice none 0 0, by rw [HP.out]; rfl, by rw [HP.out]; exact RowV.nil _ _ _ _, by rw [HP.out]; exact RowV.nil _ _ _ _, (((((((HB.out.setCell (p := ⟨g2, 0, none⟩) hwg2 _).setCell (p := ⟨g2, 1, none⟩) hwg2 _).setCell (p := ⟨g2, 2, none⟩) hwg2 _).setCell (p := ⟨g2, 3, none⟩) hwg2 _).setCell (p := ⟨g2, 4, none⟩) hwg2 _).setCell (p := ⟨g2, 5, none⟩) hwg2 _).setCell (p := ⟨g2, 6, none⟩) hwg2 _)⟩
     ·have HP := Aside0.mk (show twccP s = (zeroT, 60) by unfold twccP; rw [if_neg (by omega), if_neg (by omega), if_neg (by omega), ← Hn.out, if_neg (by omega), if_neg (by omega), HST.out]; dsimp only; rw [hBD])
      clear hBD
      have x0 := blk_cell K2.out 0
      have x1 := blk_cell K2.out 1
      have x2 := blk_cell K2.out 2
      have x3 := blk_cell K2.out 3
      have x4 := blk_cell K2.out 4
      have x5 := blk_cell K2.out 5
      have x6 := blk_cell K2.out 6
      simp only [List.getElem?_toArray, List.getElem?_cons_zero, List.getElem?_cons_succ] at x0 x1 x2 x3 x4 x5 x6
      have fx0 := blk_frozen K2.out 0
      have fx1 := blk_frozen K2.out 1
      have fx2 := blk_frozen K2.out 2
      have fx3 := blk_frozen K2.out 3
      have fx4 := blk_frozen K2.out 4
      have fx5 := blk_frozen K2.out 5
      have fx6 := blk_frozen K2.out 6
      go_wp2_with fail
      (try simp only [Exit.jump])
      refine bodyPost_ret (twcc_load g2 _ _ _ _ _ _ _ _ _ _ rfl rfl (zset7 K2.out (.int .u32 0) (.int .u32 0) (.int .i64 0) (.int .i64 0) (.int .i64 0) (.slice none 0 0) (.slice none 0 0))) rfl ?_
      exact ⟨.slice none 0 0, .slice none 0 0, by rw [HP.out]; rfl, by rw [HP.out]; exact RowV.nil _ _ _ _, by rw [HP.out]; exact RowV.nil _ _ _ _, (((((((HB.out.setCell (p := ⟨g2, 0, none⟩) hwg2 _).setCell (p := ⟨g2, 1, none⟩) hwg2 _).setCell (p := ⟨g2, 2, none⟩) hwg2 _).setCell (p := ⟨g2, 3, none⟩) hwg2 _).setCell (p := ⟨g2, 4, none⟩) hwg2 _).setCell (p := ⟨g2, 5, none⟩) hwg2 _).setCell (p := ⟨g2, 6, none⟩) hwg2 _)⟩
  ·have q1 : decide (0 < (n : Int) - (l.length : Int)) = true := decide_eq_true (by omega)
   rw [show (n : Int) - (l.length : Int) = ((n - l.length : Nat) : Int) by omega] at q1
   have eL : (n : Int) - (l.length : Int) = ((n - l.length : Nat) : Int) := by omega
   obtain ⟨left, hleft⟩ : ∃ x, x = n - l.length := ⟨_, rfl⟩
   rw [← hleft] at q1 eL z1
   go_wp2_with fail
   rw [← hleft]
   refine (chunk_any w1 p s k left RD.out h1 hk (by omega)).mono ?_
   rintro e w2 ⟨vc, rfl, hg_, hok, hno⟩
   replace HR := Aside0.mk (HR.out.gb hg_ (fun k hk => by injection hk with hk; subst hk; exact HR.out.ne RD.out (by decide)))
   replace K2 := Aside0.mk (gb_blk hg_ K2.out (fun k hk => by injection hk with hk; subst hk; exact nK2))
   replace K5 := Aside0.mk (gb_blk hg_ K5.out (fun k hk => by injection hk with hk; subst hk; exact nK5))
   have HBs := HB.out.size
   replace HB := Aside0.mk (gb_below HB.out hwp hg_)
   clear hg_ RD c0 c1 c2 c3 c4 c5 c6 fc5 fc6
   by_cases hE : (chunkP s k left).2 = 0
   ·obtain ⟨hRc, hRd⟩ := hok hE
    have RD := Aside0.mk hRd
    rw [hleft] at hE
    have HBn := Aside0.mk (HBe.out.next (by omega) hE)
    rw [← hleft] at hE HBn
    rw [hE]
    have hclen := @chunkP_len s k left
    have hpos := chunkP_pos hE z1
    have hroom := chunkP_room hE
    obtain ⟨cl, hcl⟩ : ∃ c, c = (chunkP s k left).1 := ⟨_, rfl⟩
    rw [← hcl] at hRc HBn hclen hpos
    have HRc := Aside0.mk (hRc.low HBs)
    obtain ⟨gc, oc, cc, rfl, hbc, hnc, hccm, hxc⟩ := HRc.out.some_ hpos
    have HNX : Aside0 (∀ j u, (iV cl)[j]? = some u → w2.cell? ((⟨gc, oc, none⟩ : Addr).add j) = some u) := ⟨fun j u h => by rw [Addr.add_lit]; exact hxc j u h⟩
    clear hok hno hE hRc hRd hcl hxc
    have c0 := blk_cell K5.out 0
    have c1 := blk_cell K5.out 1
    have c2 := blk_cell K5.out 2
    have c3 := blk_cell K5.out 3
    have c4 := blk_cell K5.out 4
    have c5 := blk_cell K5.out 5
    have c6 := blk_cell K5.out 6
    simp only [List.getElem?_toArray, List.getElem?_cons_zero, List.getElem?_cons_succ] at c0 c1 c2 c3 c4 c5 c6
    have fc5 := blk_frozen K5.out 5
    have fc6 := blk_frozen K5.out 6
    have HBX := Aside0.mk HB.out.size
    obtain ⟨nl, hnl⟩ : ∃ x, x = l.length := ⟨_, rfl⟩
    obtain ⟨nc, hnc_⟩ : ∃ x, x = cl.length := ⟨_, rfl⟩
    rw [← hnl] at HR hnv hln hleft c5
    rw [← hnl]
    rw [← hnc_] at hclen hpos hnc
    rw [← hnc_]
    have HNL := Aside0.mk hnl
    have HNC := Aside0.mk hnc_
    clear hnl hnc_
    go_wp2_with (at_builtin; go_loud (refine row_append (w := w2) rfl (.tmp 76) (.tmp 77) 24 rfl 3 Try.t3 (.int .i64 0) 1 8 Try.underlying24 (by kernel_rfl) rfl rfl rfl (by decide) (by decide) w.heap.size (.slice Av nl cv) nl (iV l) (by rfl) HR.out ⟨gc, oc, none⟩ nc cc (iV cl) (by rfl) (by rw [iV_length, Nat.mul_one]; exact HNC.out.symm) HNX.out (iV_one cl) (by simp only [maxLen]; omega) (by omega) HBX.out ?_); intro v1 w6 hR6 hG6 hO6 hF6; obtain ⟨g6, o6, c6_, rfl, hb6, hn6, hc6, hx6⟩ := hR6.some_ (by omega); have X5' := gb_blkR hG6 HR.out K5.out (by decide); have X2' := Aside0.mk (gb_blkR hG6 HR.out K2.out (by decide)); have XD' := Aside0.mk (gb_blkR hG6 HR.out RD.out (by decide)); have XB' := Aside0.mk (below_new HB.out hG6 (fun k hk => (HR.out.lt hk).2.1)); have u5 := blk_cell X5' 5; have u5f := blk_frozen X5' 5; simp only [List.getElem?_toArray, List.getElem?_cons_zero, List.getElem?_cons_succ] at u5; have HR6 := Aside0.mk hR6; have HX5 := Aside0.mk X5'; clear X5' hx6 hR6 hG6 hO6 hF6 c0 c1 c2 c3 c4 c5 c6)
    go_step3
    have K5n : (w6.setCell ⟨g5, 5, none⟩ (.slice (some ⟨g6, o6, none⟩) (nl + nc) c6_)).heap[g5]? = some (outC S M F B C (.slice (some ⟨g6, o6, none⟩) (nl + nc) c6_) (.slice none 0 0)) := by
     have e_ := blk_set HX5.out 5 (.slice (some ⟨g6, o6, none⟩) (nl + nc) c6_)
     simp only [List.setIfInBounds_toArray, List.set_cons_zero, List.set_cons_succ] at e_
     exact e_
    have RDn : RdIs (w6.setCell ⟨g5, 5, none⟩ (.slice (some ⟨g6, o6, none⟩) (nl + nc) c6_)) p 146 s ((k + 16 : Nat) : Int) false := (Below.heap_setCell w6 (⟨g5, 5, none⟩ : Addr) _ p nK5.symm).trans XD'.out
    have hll : (l ++ cl).length = nl + nc := by rw [List.length_append, ← HNL.out, ← HNC.out]
    obtain rfl := HG2.out
    obtain rfl := HBB.out
    obtain rfl := HC.out
    obtain rfl := HF.out
    obtain rfl := HM.out
    obtain rfl := HS.out
    obtain rfl := Hn.out
    show (0 : Nat) = 0 ∧ _ ∧ _
    refine ⟨rfl, TwJ.mk (p := p) (g5 := g5) (k + 16) (l ++ cl) (.slice (some ⟨g6, o6, none⟩) (nl + nc) c6_) rfl ⟨hroom, hwp, hwg5, hwg2, h25, hn9, hn0⟩ RDn ?_ K5n ?_ (by rw [hll]; omega) HBn.out ?_, ?_⟩
    ·exact (Below.heap_setCell w6 (⟨g5, 5, none⟩ : Addr) _ w.heap.size h25).trans X2'.out
    ·rw [hll, iV_append]
     exact HR6.out.setCell (p := ⟨g5, 5, none⟩) _ (HR6.out.ne HX5.out (by decide))
    ·exact XB'.out.setCell (p := ⟨g5, 5, none⟩) hwg5 _
    ·show 8 * s.size - atP p _ < 8 * s.size - atP p w1
     rw [HM0.out, atP_is RDn]
     omega
   ·obtain rfl := hno hE
    have q3 : ((chunkP s k left).2 != 0) = true := by simp [hE]
    have HST : Aside0 (statsR s 128 n = .error (chunkP s k left).2) := ⟨by rw [hleft]; exact HBe.out.bad (by omega) (by rw [← hleft]; exact hE)⟩
    obtain ⟨EE, hEE⟩ : ∃ E, E = (chunkP s k left).2 := ⟨_, rfl⟩
    rw [← hEE] at q3 HST ⊢
    have HP := Aside0.mk (show twccP s = (zeroT, EE) by unfold twccP; rw [if_neg (by omega), if_neg (by omega), if_neg (by omega), ← Hn.out, if_neg (by omega), if_neg (by omega), HST.out])
    clear hok hno hE hEE
    go_upto_region 18 with fail
    have x0 := blk_cell K2.out 0
    have x1 := blk_cell K2.out 1
    have x2 := blk_cell K2.out 2
    have x3 := blk_cell K2.out 3
    have x4 := blk_cell K2.out 4
    have x5 := blk_cell K2.out 5
    have x6 := blk_cell K2.out 6
    simp only [List.getElem?_toArray, List.getElem?_cons_zero, List.getElem?_cons_succ] at x0 x1 x2 x3 x4 x5 x6
    have fx0 := blk_frozen K2.out 0
    have fx1 := blk_frozen K2.out 1
    have fx2 := blk_frozen K2.out 2
    have fx3 := blk_frozen K2.out 3
    have fx4 := blk_frozen K2.out 4
    have fx5 := blk_frozen K2.out 5
    have fx6 := blk_frozen K2.out 6
    go_wp2_with fail
    (try simp only [Exit.jump])
    refine bodyPost_ret (twcc_load g2 _ _ _ _ _ _ _ _ _ _ rfl rfl (zset7 K2.out (.int .u32 0) (.int .u32 0) (.int .i64 0) (.int .i64 0) (.int .i64 0) (.slice none 0 0) (.slice none 0 0))) rfl ?_
    exact ⟨.slice none 0 0, .slice none 0 0, by rw [HP.out]; rfl, by rw [HP.out]; exact RowV.nil _ _ _ _, by rw [HP.out]; exact RowV.nil _ _ _ _, (((((((HB.out.setCell (p := ⟨g2, 0, none⟩) hwg2 _).setCell (p := ⟨g2, 1, none⟩) hwg2 _).setCell (p := ⟨g2, 2, none⟩) hwg2 _).setCell (p := ⟨g2, 3, none⟩) hwg2 _).setCell (p := ⟨g2, 4, none⟩) hwg2 _).setCell (p := ⟨g2, 5, none⟩) hwg2 _).setCell (p := ⟨g2, 6, none⟩) hwg2 _)⟩
 ·intro hrest
  go_wp2_with fail
  refine (read_any _ s).mono ?_
  rintro e w1 ⟨rfl, rfl⟩
  have K2a := Aside0.mk (blk_new w (.cells #[.int .u32 0, .int .u32 0, .int .i64 0, .int .i64 0, .int .i64 0, .slice none 0 0, .slice none 0 0] 63))
  have RDa : RdIs ((w.alloc (.cells #[.int .u32 0, .int .u32 0, .int .i64 0, .int .i64 0, .int .i64 0, .slice none 0 0, .slice none 0 0] 63)).alloc (.cells #[.string s, .int .i64 0, .bool false] 146)) (w.heap.size + 1) 146 s ((0 : Nat) : Int) false := by
   have h := blk_new (w.alloc (.cells #[.int .u32 0, .int .u32 0, .int .i64 0, .int .i64 0, .int .i64 0, .slice none 0 0, .slice none 0 0] 63)) (.cells #[.string s, .int .i64 0, .bool false] 146)
   rw [show (w.alloc (.cells #[.int .u32 0, .int .u32 0, .int .i64 0, .int .i64 0, .int .i64 0, .slice none 0 0, .slice none 0 0] 63)).heap.size = w.heap.size + 1 by simp] at h
   exact h
  have K2b : Aside0 (((w.alloc (.cells #[.int .u32 0, .int .u32 0, .int .i64 0, .int .i64 0, .int .i64 0, .slice none 0 0, .slice none 0 0] 63)).alloc (.cells #[.string s, .int .i64 0, .bool false] 146)).heap[w.heap.size]? = some (.cells #[.int .u32 0, .int .u32 0, .int .i64 0, .int .i64 0, .int .i64 0, .slice none 0 0, .slice none 0 0] 63 (0, 0))) := ⟨gb_blk (World.grownBy_alloc _ _ none) K2a.out (fun k hk => by cases hk)⟩
  have HB : Aside0 (Below w.heap.size w ((w.alloc (.cells #[.int .u32 0, .int .u32 0, .int .i64 0, .int .i64 0, .int .i64 0, .slice none 0 0, .slice none 0 0] 63)).alloc (.cells #[.string s, .int .i64 0, .bool false] 146))) := ⟨((Below.refl _ _).alloc (Nat.le_refl _) _).alloc (by simp) _⟩
  obtain ⟨p, hp⟩ : ∃ p, p = w.heap.size + 1 := ⟨_, rfl⟩
  rw [show (w.alloc (.cells #[.int .u32 0, .int .u32 0, .int .i64 0, .int .i64 0, .int .i64 0, .slice none 0 0, .slice none 0 0] 63)).heap.size = p by rw [hp]; simp]
  rw [← hp] at RDa
  have RD := Aside0.mk RDa
  obtain ⟨g2, hg2⟩ : ∃ g, g = w.heap.size := ⟨_, rfl⟩
  have K2 := K2b
  rw [← hg2] at K2
  generalize (w.alloc (.cells #[.int .u32 0, .int .u32 0, .int .i64 0, .int .i64 0, .int .i64 0, .slice none 0 0, .slice none 0 0] 63)).alloc (.cells #[.string s, .int .i64 0, .bool false] 146) = w1 at *
  have nK2 : g2 ≠ p := by omega
  have hwp : w.heap.size ≤ p := by omega
  have hwg2 : w.heap.size ≤ g2 := by omega
  rw [← hg2] at hrest ⊢
  have HG2 := Aside0.mk hg2
  clear hp RDa K2a K2b hg2
  go_wp2_with fail
  refine (get_good w1 p s (0) 32 RD.out (by omega) (by omega) (by omega) (by omega)).mono ?_
  rintro e w2 ⟨rfl, hr_, hg_⟩
  replace RD : Aside0 (RdIs w2 p 146 s ((32 : Nat) : Int) false) := ⟨by rw [show ((32 : Nat) : Int) = ((0 : Nat) : Int) + ((32 : Nat) : Int) by omega]; exact hr_⟩
  replace K2 := Aside0.mk (gb_blk hg_ K2.out (fun k hk => by injection hk with hk; subst hk; exact nK2))
  replace HB := Aside0.mk (gb_below HB.out hwp hg_)
  clear hg_ hr_
  obtain ⟨S, hS⟩ : ∃ V, V = rdBits s (0) 32 := ⟨_, rfl⟩
  have lS : S < 2 ^ 32 := by rw [hS]; exact rdBits_lt _ _ _
  rw [← hS]
  have HS := Aside0.mk hS
  clear hS
  go_wp2_with fail
  refine (get_good w2 p s (32) 32 RD.out (by omega) (by omega) (by omega) (by omega)).mono ?_
  rintro e w3 ⟨rfl, hr_, hg_⟩
  replace RD : Aside0 (RdIs w3 p 146 s ((64 : Nat) : Int) false) := ⟨by rw [show ((64 : Nat) : Int) = ((32 : Nat) : Int) + ((32 : Nat) : Int) by omega]; exact hr_⟩
  replace K2 := Aside0.mk (gb_blk hg_ K2.out (fun k hk => by injection hk with hk; subst hk; exact nK2))
  replace HB := Aside0.mk (gb_below HB.out hwp hg_)
  clear hg_ hr_
  obtain ⟨M, hM⟩ : ∃ V, V = rdBits s (32) 32 := ⟨_, rfl⟩
  have lM : M < 2 ^ 32 := by rw [hM]; exact rdBits_lt _ _ _
  rw [← hM]
  have HM := Aside0.mk hM
  clear hM
  go_wp2_with fail
  refine (get_good w3 p s (64) 16 RD.out (by omega) (by omega) (by omega) (by omega)).mono ?_
  rintro e w4 ⟨rfl, hr_, hg_⟩
  replace RD : Aside0 (RdIs w4 p 146 s ((80 : Nat) : Int) false) := ⟨by rw [show ((80 : Nat) : Int) = ((64 : Nat) : Int) + ((16 : Nat) : Int) by omega]; exact hr_⟩
  replace K2 := Aside0.mk (gb_blk hg_ K2.out (fun k hk => by injection hk with hk; subst hk; exact nK2))
  replace HB := Aside0.mk (gb_below HB.out hwp hg_)
  clear hg_ hr_
  obtain ⟨F, hF⟩ : ∃ V, V = rdBits s (64) 16 := ⟨_, rfl⟩
  have lF : F < 2 ^ 16 := by rw [hF]; exact rdBits_lt _ _ _
  rw [← hF]
  have HF := Aside0.mk hF
  clear hF
  go_wp2_with fail
  obtain ⟨g5, hg5⟩ : ∃ g, g = w4.heap.size := ⟨_, rfl⟩
  have RD0 := RD
  have K5 : Aside0 ((w4.alloc (.cells #[.int .u32 (S : Int), .int .u32 (M : Int), .int .i64 (F : Int), .int .i64 0, .int .i64 0, .slice none 0 0, .slice none 0 0] 63)).heap[g5]? = some (.cells #[.int .u32 (S : Int), .int .u32 (M : Int), .int .i64 (F : Int), .int .i64 0, .int .i64 0, .slice none 0 0, .slice none 0 0] 63 (0, 0))) := ⟨by rw [hg5]; exact blk_new w4 _⟩
  replace RD := Aside0.mk (gb_blk (World.grownBy_alloc w4 (.cells #[.int .u32 (S : Int), .int .u32 (M : Int), .int .i64 (F : Int), .int .i64 0, .int .i64 0, .slice none 0 0, .slice none 0 0] 63) none) RD.out (fun k hk => by cases hk))
  have h2l := blk_lt K2.out
  have hpl := blk_lt RD.out
  replace K2 := Aside0.mk (gb_blk (World.grownBy_alloc w4 (.cells #[.int .u32 (S : Int), .int .u32 (M : Int), .int .i64 (F : Int), .int .i64 0, .int .i64 0, .slice none 0 0, .slice none 0 0] 63) none) K2.out (fun k hk => by cases hk))
  have hwg5 : w.heap.size ≤ g5 := by rw [hg5]; exact HB.out.size
  replace HB := Aside0.mk (HB.out.alloc (o := .cells #[.int .u32 (S : Int), .int .u32 (M : Int), .int .i64 (F : Int), .int .i64 0, .int .i64 0, .slice none 0 0, .slice none 0 0] 63) HB.out.size)
  have nK5 : g5 ≠ p := by
   have := blk_lt (w := w4) (show w4.heap[p]? = some _ from RD0.out)
   omega
  have h25 : g2 ≠ g5 := by omega
  rw [← hg5]
  generalize w4.alloc (.cells #[.int .u32 (S : Int), .int .u32 (M : Int), .int .i64 (F : Int), .int .i64 0, .int .i64 0, .slice none 0 0, .slice none 0 0] 63) = w5 at *
  clear hg5 h2l hpl RD0
  refine (get_good w5 p s (80) 16 RD.out (by omega) (by omega) (by omega) (by omega)).mono ?_
  rintro e w6 ⟨rfl, hr_, hg_⟩
  replace RD : Aside0 (RdIs w6 p 146 s ((96 : Nat) : Int) false) := ⟨by rw [show ((96 : Nat) : Int) = ((80 : Nat) : Int) + ((16 : Nat) : Int) by omega]; exact hr_⟩
  replace K2 := Aside0.mk (gb_blk hg_ K2.out (fun k hk => by injection hk with hk; subst hk; exact nK2))
  replace K5 := Aside0.mk (gb_blk hg_ K5.out (fun k hk => by injection hk with hk; subst hk; exact nK5))
  replace HB := Aside0.mk (gb_below HB.out hwp hg_)
  clear hg_ hr_
  obtain ⟨n, hn⟩ : ∃ V, V = rdBits s (80) 16 := ⟨_, rfl⟩
  have ln : n < 2 ^ 16 := by rw [hn]; exact rdBits_lt _ _ _
  rw [← hn]
  have Hn := Aside0.mk hn
  clear hn
  go_wp2_with fail
  refine (get_good w6 p s (96) 24 RD.out (by omega) (by omega) (by omega) (by omega)).mono ?_
  rintro e w7 ⟨rfl, hr_, hg_⟩
  replace RD : Aside0 (RdIs w7 p 146 s ((120 : Nat) : Int) false) := ⟨by rw [show ((120 : Nat) : Int) = ((96 : Nat) : Int) + ((24 : Nat) : Int) by omega]; exact hr_⟩
  replace K2 := Aside0.mk (gb_blk hg_ K2.out (fun k hk => by injection hk with hk; subst hk; exact nK2))
  replace K5 := Aside0.mk (gb_blk hg_ K5.out (fun k hk => by injection hk with hk; subst hk; exact nK5))
  replace HB := Aside0.mk (gb_below HB.out hwp hg_)
  clear hg_ hr_
  obtain ⟨V, hV⟩ : ∃ V, V = rdBits s (96) 24 := ⟨_, rfl⟩
  have lV : V < 2 ^ 24 := by rw [hV]; exact rdBits_lt _ _ _
  rw [← hV]
  have HV := Aside0.mk hV
  clear hV
  go_wp2_with fail
  refine (signed24 V w7 (by omega)).mono ?_
  rintro e w8 ⟨rfl, hw8⟩
  obtain rfl := hw8.symm
  obtain ⟨B, hB_⟩ : ∃ B, B = signedP V 24 := ⟨_, rfl⟩
  rw [← hB_]
  have HBB := Aside0.mk hB_
  clear hB_
  go_wp2_with fail
  refine (get_good w7 p s (120) 8 RD.out (by omega) (by omega) (by omega) (by omega)).mono ?_
  rintro e w9 ⟨rfl, hr_, hg_⟩
  replace RD : Aside0 (RdIs w9 p 146 s ((128 : Nat) : Int) false) := ⟨by rw [show ((128 : Nat) : Int) = ((120 : Nat) : Int) + ((8 : Nat) : Int) by omega]; exact hr_⟩
  replace K2 := Aside0.mk (gb_blk hg_ K2.out (fun k hk => by injection hk with hk; subst hk; exact nK2))
  replace K5 := Aside0.mk (gb_blk hg_ K5.out (fun k hk => by injection hk with hk; subst hk; exact nK5))
  replace HB := Aside0.mk (gb_below HB.out hwp hg_)
  clear hg_ hr_
  obtain ⟨C, hC⟩ : ∃ V, V = rdBits s (120) 8 := ⟨_, rfl⟩
  have lC : C < 2 ^ 8 := by rw [hC]; exact rdBits_lt _ _ _
  rw [← hC]
  have HC := Aside0.mk hC
  clear hC
  have c0 := blk_cell K5.out 0
  have c1 := blk_cell K5.out 1
  have c2 := blk_cell K5.out 2
  have c3 := blk_cell K5.out 3
  have c4 := blk_cell K5.out 4
  have c5 := blk_cell K5.out 5
  have c6 := blk_cell K5.out 6
  simp only [List.getElem?_toArray, List.getElem?_cons_zero, List.getElem?_cons_succ] at c0 c1 c2 c3 c4 c5 c6
  have fc3 := blk_frozen K5.out 3
  have fc4 := blk_frozen K5.out 4
  have Hn2 : Aside0 (rdBits s 80 16 = n) := ⟨Hn.out.symm⟩
  go_upto_region 11 with fail
  have K5n : Aside0 (((w9.setCell ⟨g5, 3, none⟩ (.int .i64 B)).setCell ⟨g5, 4, none⟩ (.int .i64 (C : Int))).heap[g5]? = some (.cells #[.int .u32 (S : Int), .int .u32 (M : Int), .int .i64 (F : Int), .int .i64 B, .int .i64 (C : Int), .slice none 0 0, .slice none 0 0] 63 (0, 0))) := ⟨by
   have e_ := blk_set K5.out 3 (.int .i64 B)
   simp only [List.setIfInBounds_toArray, List.set_cons_zero, List.set_cons_succ] at e_
   have e_ := blk_set e_ 4 (.int .i64 (C : Int))
   simp only [List.setIfInBounds_toArray, List.set_cons_zero, List.set_cons_succ] at e_
   exact e_⟩
  replace K2 := Aside0.mk ((Below.heap_setCell (w9.setCell ⟨g5, 3, none⟩ (.int .i64 B)) (⟨g5, 4, none⟩ : Addr) (.int .i64 (C : Int)) g2 h25).trans ((Below.heap_setCell w9 (⟨g5, 3, none⟩ : Addr) (.int .i64 B) g2 h25).trans K2.out))
  have RDn : RdIs ((w9.setCell ⟨g5, 3, none⟩ (.int .i64 B)).setCell ⟨g5, 4, none⟩ (.int .i64 (C : Int))) p 146 s ((128 : Nat) : Int) false := (Below.heap_setCell (w9.setCell ⟨g5, 3, none⟩ (.int .i64 B)) (⟨g5, 4, none⟩ : Addr) (.int .i64 (C : Int)) p nK5.symm).trans ((Below.heap_setCell w9 (⟨g5, 3, none⟩ : Addr) (.int .i64 B) p nK5.symm).trans RD.out)
  replace RD := Aside0.mk RDn
  replace HB := Aside0.mk ((HB.out.setCell (p := ⟨g5, 3, none⟩) hwg5 (.int .i64 B)).setCell (p := ⟨g5, 4, none⟩) hwg5 (.int .i64 (C : Int)))
  replace K5 := K5n
  clear K5n RDn c0 c1 c2 c3 c4 c5 c6 fc3 fc4
  generalize (w9.setCell ⟨g5, 3, none⟩ (.int .i64 B)).setCell ⟨g5, 4, none⟩ (.int .i64 (C : Int)) = wa at *
  by_cases z1 : n = 0
  ·have q1 : ((n : Int) == 0) = true := by rw [z1]; rfl
   have HP := Aside0.mk (show twccP s = (zeroT, 90) by unfold twccP; rw [if_neg (by omega), if_neg (by omega), if_neg (by omega), Hn2.out, if_pos z1])
   have Z1 := Aside0.mk z1
   clear z1
   have x0 := blk_cell K2.out 0
   have x1 := blk_cell K2.out 1
   have x2 := blk_cell K2.out 2
   have x3 := blk_cell K2.out 3
   have x4 := blk_cell K2.out 4
   have x5 := blk_cell K2.out 5
   have x6 := blk_cell K2.out 6
   simp only [List.getElem?_toArray, List.getElem?_cons_zero, List.getElem?_cons_succ] at x0 x1 x2 x3 x4 x5 x6
   have fx0 := blk_frozen K2.out 0
   have fx1 := blk_frozen K2.out 1
   have fx2 := blk_frozen K2.out 2
   have fx3 := blk_frozen K2.out 3
   have fx4 := blk_frozen K2.out 4
   have fx5 := blk_frozen K2.out 5
   have fx6 := blk_frozen K2.out 6
   go_wp2_with fail
   (try simp only [Exit.jump])
   refine bodyPost_ret (twcc_load g2 _ _ _ _ _ _ _ _ _ _ rfl rfl (zset7 K2.out (.int .u32 0) (.int .u32 0) (.int .i64 0) (.int .i64 0) (.int .i64 0) (.slice none 0 0) (.slice none 0 0))) rfl ?_
   exact ⟨.slice none 0 0, .slice none 0 0, by rw [HP.out]; rfl, by rw [HP.out]; exact RowV.nil _ _ _ _, by rw [HP.out]; exact RowV.nil _ _ _ _, (((((((HB.out.setCell (p := ⟨g2, 0, none⟩) hwg2 _).setCell (p := ⟨g2, 1, none⟩) hwg2 _).setCell (p := ⟨g2, 2, none⟩) hwg2 _).setCell (p := ⟨g2, 3, none⟩) hwg2 _).setCell (p := ⟨g2, 4, none⟩) hwg2 _).setCell (p := ⟨g2, 5, none⟩) hwg2 _).setCell (p := ⟨g2, 6, none⟩) hwg2 _)⟩
  have q1 : ((n : Int) == 0) = false := by simp; omega
  by_cases z2 : 4096 < n
  ·have q2 : decide (4096 < (n : Int)) = true := decide_eq_true (by omega)
   have HP := Aside0.mk (show twccP s = (zeroT, 3) by unfold twccP; rw [if_neg (by omega), if_neg (by omega), if_neg (by omega), Hn2.out, if_neg z1, if_pos z2])
   have x0 := blk_cell K2.out 0
   have x1 := blk_cell K2.out 1
   have x2 := blk_cell K2.out 2
   have x3 := blk_cell K2.out 3
   have x4 := blk_cell K2.out 4
   have x5 := blk_cell K2.out 5
   have x6 := blk_cell K2.out 6
   simp only [List.getElem?_toArray, List.getElem?_cons_zero, List.getElem?_cons_succ] at x0 x1 x2 x3 x4 x5 x6
   have fx0 := blk_frozen K2.out 0
   have fx1 := blk_frozen K2.out 1
   have fx2 := blk_frozen K2.out 2
   have fx3 := blk_frozen K2.out 3
   have fx4 := blk_frozen K2.out 4
   have fx5 := blk_frozen K2.out 5
   have fx6 := blk_frozen K2.out 6
   go_wp2_with fail
   (try simp only [Exit.jump])
   refine bodyPost_ret (twcc_load g2 _ _ _ _ _ _ _ _ _ _ rfl rfl (zset7 K2.out (.int .u32 0) (.int .u32 0) (.int .i64 0) (.int .i64 0) (.int .i64 0) (.slice none 0 0) (.slice none 0 0))) rfl ?_
   exact ⟨.slice none 0 0, .slice none 0 0, by rw [HP.out]; rfl, by rw [HP.out]; exact RowV.nil _ _ _ _, by rw [HP.out]; exact RowV.nil _ _ _ _, (((((((HB.out.setCell (p := ⟨g2, 0, none⟩) hwg2 _).setCell (p := ⟨g2, 1, none⟩) hwg2 _).setCell (p := ⟨g2, 2, none⟩) hwg2 _).setCell (p := ⟨g2, 3, none⟩) hwg2 _).setCell (p := ⟨g2, 4, none⟩) hwg2 _).setCell (p := ⟨g2, 5, none⟩) hwg2 _).setCell (p := ⟨g2, 6, none⟩) hwg2 _)⟩
  have q2 : decide (4096 < (n : Int)) = false := decide_eq_false (by omega)
  go_wp2_with fail
  obtain rfl := HG2.out
  obtain rfl := HBB.out
  obtain rfl := HV.out
  obtain rfl := HC.out
  obtain rfl := HF.out
  obtain rfl := HM.out
  obtain rfl := HS.out
  obtain rfl := Hn.out
  go_step3
  rename_i K3 hK3
  exact hK3 _ _ (hrest.out _ _ (TwJ.mk (p := p) (g5 := g5) 128 [] (.slice none 0 0) rfl ⟨by omega, hwp, hwg5, hwg2, h25, by omega, z1⟩ RD.out K2.out K5.out (RowV.nil _ _ _ _) (by simp) (BehindS.start s _) HB.out))
theorem twcc_any (s : ByteArray) (w : World) (h : s.size ≤ 1000000) : Calls Try.prog 40 #[.string s] w (TwPost s w) := by
 by_cases h1 : 65536 < s.size
 ·exact twcc_short s w h 2 (.inl ⟨h1, rfl⟩)
 ·by_cases h2 : s.size % 4 = 0
  ·by_cases h3 : s.size < 16
   ·exact twcc_short s w h 60 (.inr (.inr ⟨by omega, h2, h3, rfl⟩))
   ·exact twcc_long s w (by omega) h2 (by omega)
  ·exact twcc_short s w h 90 (.inr (.inl ⟨by omega, h2, rfl⟩))
end Go.Proofs.Ytgakmnholegbgaa.B
end
section
namespace Go.Proofs.Ytgakmnholegbgaa.B
open Go.RowKit Go.Proofs.YtgakmnholegbgaaW.PrintWords Go.Proofs.YtgakmnholegbgaaW.PrintLast Go.Proofs.YtgakmnholegbgaaW.PrintMore
set_option linter.unusedVariables false
set_option linter.unusedSimpArgs false
abbrev R5 := Int × Bool × Int × Bool × Bool
def repC (x : R5) : List Value := [.int .i64 x.1, .bool x.2.1, .int .i64 x.2.2.1, .bool x.2.2.2.1, .bool x.2.2.2.2]
def repV (l : List R5) : List Value := l.flatMap repC
theorem repV_length (l : List R5) : (repV l).length = l.length * 5 := by
 induction l with
 | nil => rfl
 | cons x l ih => simp only [repV, repC, List.flatMap_cons, List.length_append, List.length_cons, List.length_nil] at ih ⊢; omega
theorem repV_snoc (l : List R5) (x : R5) : repV (l ++ [x]) = repV l ++ repC x := by simp [repV]
theorem repV_append (l m : List R5) : repV (l ++ m) = repV l ++ repV m := by simp [repV]
def atK (a0 : Int) (ds : List Int) : Nat → Int
 | 0 => a0
 | k + 1 => wrap64 (atK a0 ds k + wrap64 (250 * ds.getD k 0))
def cntK (l : List Int) (i : Nat) : Nat := ((l.take i).filter fun x => decide (0 < x)).length
theorem cntK_yes {l : List Int} {i : Nat} {x : Int} (h : l[i]? = some x) (hx : 0 < x) : cntK l (i + 1) = cntK l i + 1 := by
 simp [cntK, List.take_add_one, h, List.filter_append, hx]
theorem cntK_no {l : List Int} {i : Nat} {x : Int} (h : l[i]? = some x) (hx : ¬ 0 < x) : cntK l (i + 1) = cntK l i := by
 simp [cntK, List.take_add_one, h, List.filter_append, hx]
theorem cntK_le (l : List Int) (i : Nat) : cntK l i ≤ i := by
 unfold cntK
 have h := List.length_filter_le (fun x : Int => decide (0 < x)) (l.take i)
 have h2 := List.length_take_le i l
 omega
theorem cntK_mono (l : List Int) {i j : Nat} (h : i ≤ j) : cntK l i ≤ cntK l j := by
 induction h with
 | refl => exact Nat.le_refl _
 | step h ih =>
  rename_i m
  refine Nat.le_trans ih ?_
  cases hx : l[m]? with
  | none => simp [cntK, List.take_add_one, hx]
  | some x =>
   by_cases h0 : 0 < x
   ·rw [cntK_yes hx h0]; omega
   ·rw [cntK_no hx h0]; omega
def rep2 (F a0 : Int) (l ds : List Int) (i : Nat) : R5 := ((F + i) % 65536, decide (0 < l.getD i 0), if 0 < l.getD i 0 then atK a0 ds (cntK l i + 1) else 0, false, false)
def reps2 (F a0 : Int) (l ds : List Int) (n : Nat) : List R5 := (List.range n).map (rep2 F a0 l ds)
theorem reps2_length (F a0 : Int) (l ds : List Int) (n : Nat) : (reps2 F a0 l ds n).length = n := by simp [reps2]
theorem reps2_succ (F a0 : Int) (l ds : List Int) (n : Nat) : reps2 F a0 l ds (n + 1) = reps2 F a0 l ds n ++ [rep2 F a0 l ds n] := by simp [reps2, List.range_succ]
def baseP (near base : Int) : Int := wrap64 (64000 * nearP 16777216 (mdo near 1 64000 1) base)
structure Fr (p : Nat) (w w' : World) : Prop where
 heap : ∀ k t, (w.shape? k).map (·.1) = some t → t ≠ 58 → k ≠ p → w'.heap[k]? = w.heap[k]?
theorem Fr.refl (p : Nat) (w : World) : Fr p w w := ⟨fun _ _ _ _ _ => rfl⟩
theorem Fr.trans {p : Nat} {w w1 w2 : World} (h : Fr p w w1) (h2 : Fr p w1 w2) : Fr p w w2 := ⟨fun k t hs ht hp => by
 have e := h.heap k t hs ht hp
 exact (h2.heap k t (by simpa only [World.shape?, e] using hs) ht hp).trans e⟩
theorem Fr.of_below {p : Nat} {w w' : World} (h : Below w.heap.size w w') : Fr p w w' := ⟨fun k t hs _ _ => h.block k (shape_lt hs)⟩
theorem Fr.alloc (p : Nat) (w : World) (o : Obj) : Fr p w (w.alloc o) := .of_below ((Below.refl _ _).alloc (Nat.le_refl _) _)
theorem Fr.grown {p : Nat} {w w' : World} {base : Nat} {sz : Nat} {v : Value} {n : Nat} {xs : List Value} (h : RowV w base 58 sz v n xs) (g : w.grownBy w' v.ownBlock) : Fr p w w' := ⟨fun k t hs ht hp => g.block k (shape_lt hs) (fun e => by
 have h2 := (h.lt e.symm).2.2
 rw [hs] at h2
 injection h2 with h2
 exact ht h2)⟩
theorem Fr.set {p : Nat} (w : World) (f : Nat) (u : Value) : Fr p w (w.setCell ⟨p, f, none⟩ u) := ⟨fun k t _ _ hp => Below.heap_setCell w _ u k hp⟩
theorem Fr.blk {p g : Nat} {w w' : World} {cs : Array Value} {t : TypeId} {fr : Nat × Nat} (h : Fr p w w') (hg : w.heap[g]? = some (.cells cs t fr)) (ht : t ≠ 58) (hp : g ≠ p) : w'.heap[g]? = some (.cells cs t fr) :=
 (h.heap g t (by simp only [World.shape?, hg]; rfl) ht hp).trans hg
theorem Fr.row {p : Nat} {w w' : World} {base : Nat} {e : TypeId} {sz : Nat} {v : Value} {n : Nat} {xs : List Value} (h : Fr p w w') (hR : RowV w base e sz v n xs) (ht : e ≠ 58) (hp : v.ownBlock ≠ some p) : RowV w' base e sz v n xs :=
 hR.keep (fun k hk _ hs => h.heap k e hs ht (fun e2 => hp (by rw [hk, e2])))
end Go.Proofs.Ytgakmnholegbgaa.B
end
section
namespace Go.Proofs.Ytgakmnholegbgaa.B
open Go.RowKit Go.Proofs.YtgakmnholegbgaaW.PrintWords Go.Proofs.YtgakmnholegbgaaW.PrintLast Go.Proofs.YtgakmnholegbgaaW.PrintMore
set_option linter.unusedVariables false
set_option linter.unusedSimpArgs false
def rep1 (now F : Int) (m : M3) (k : Nat) : R5 := ((F + k) % 65536, m.1, if m.1 = true ∧ m.2.2 < 8190 then wrap64 (now - mdo m.2.2 1000000 1024 1) else 0, m.1 && decide (8190 ≤ m.2.2), m.1 && (m.2.1 == 3))
def repsM (now F : Int) (l : List M3) (n : Nat) : List R5 := (List.range n).map fun k => rep1 now F (l.getD k (false, 0, 0)) k
theorem repsM_succ {now F : Int} {l : List M3} {n : Nat} {m : M3} (h : l[n]? = some m) : repsM now F l (n + 1) = repsM now F l n ++ [rep1 now F m n] := by
 simp [repsM, List.range_succ, h]
theorem repsM_length (now F : Int) (l : List M3) (n : Nat) : (repsM now F l n).length = n := by simp [repsM]
def repsB (now : Int) (L : List B3) : List R5 := L.flatMap fun x => repsM now x.2.1 x.2.2 x.2.2.length
theorem repsB_snoc (now : Int) (L : List B3) (x : B3) : repsB now (L ++ [x]) = repsB now L ++ repsM now x.2.1 x.2.2 x.2.2.length := by simp [repsB]
theorem repsB_take {now : Int} {L : List B3} {j : Nat} {x : B3} (h : L[j]? = some x) : repsB now (L.take (j + 1)) = repsB now (L.take j) ++ repsM now x.2.1 x.2.2 x.2.2.length := by
 rw [List.take_add_one, h]
 exact repsB_snoc now _ x
theorem repsB_le (now : Int) (L : List B3) (h : ∀ x ∈ L, x.2.2.length ≤ 4096) : (repsB now L).length ≤ 4096 * L.length := by
 induction L with
 | nil => simp [repsB]
 | cons x L ih =>
  have h1 := ih (fun y hy => h y (List.mem_cons_of_mem _ hy))
  have h2 := h x List.mem_cons_self
  simp only [repsB, List.flatMap_cons, List.length_append, repsM_length, List.length_cons] at h1 ⊢
  omega
theorem rep1_no {now F : Int} {m : M3} {k : Nat} (h : m.1 = false) : rep1 now F m k = ((F + k) % 65536, false, 0, false, false) := by simp [rep1, h]
theorem rep1_late {now F : Int} {m : M3} {k : Nat} (h : m.1 = true) (h2 : 8190 ≤ m.2.2) : rep1 now F m k = ((F + k) % 65536, true, 0, true, m.2.1 == 3) := by
 simp [rep1, h, h2]
 intro h3
 omega
theorem rep1_at {now F : Int} {m : M3} {k : Nat} (h : m.1 = true) (h2 : ¬ 8190 ≤ m.2.2) : rep1 now F m k = ((F + k) % 65536, true, wrap64 (now - mdo m.2.2 1000000 1024 1), false, m.2.1 == 3) := by
 simp [rep1, h, h2]
end Go.Proofs.Ytgakmnholegbgaa.B
end
section
namespace Go.Proofs.Ytgakmnholegbgaa.B
open Go.RowKit Go.Proofs.YtgakmnholegbgaaW.PrintWords
def restOf (s : ByteArray) : ByteArray := s.extract (partSize s) s.size
theorem partSize_ge (s : ByteArray) : 4 ≤ partSize s := by unfold partSize; omega
theorem restOf_size (s : ByteArray) : (restOf s).size = s.size - partSize s := by simp [restOf]
theorem partErr_size {s : ByteArray} (h : partErr s = 0) : partSize s ≤ s.size ∧ 4 ≤ s.size := by
 unfold partErr at h
 split at h
 ·cases h
 ·split at h
  ·cases h
  ·omega
def splitR (s : ByteArray) : Except Int (List P3) :=
 if _h : s.size = 0 then .ok [] else if partErr s ≠ 0 then .error (partErr s) else (splitR (restOf s)).map (partOf s :: ·)
termination_by s.size
decreasing_by
 have := partSize_ge s
 rw [restOf_size]
 omega
theorem splitR_nil {s : ByteArray} (h : s.size = 0) : splitR s = .ok [] := by rw [splitR, dif_pos h]
theorem splitR_bad {s : ByteArray} (h : ¬ s.size = 0) (he : partErr s ≠ 0) : splitR s = .error (partErr s) := by rw [splitR, dif_neg h, if_pos he]
theorem splitR_go {s : ByteArray} (h : ¬ s.size = 0) (he : partErr s = 0) : splitR s = (splitR (restOf s)).map (partOf s :: ·) := by rw [splitR, dif_neg h, if_neg (by simp [he])]
def splitP (s : ByteArray) : List P3 × Int := if 65536 < s.size then ([], 2) else if s.size = 0 then ([], 60) else match splitR s with
 | .ok l => (l, 0)
 | .error e => ([], e)
theorem splitP_long {s : ByteArray} (h : 65536 < s.size) : splitP s = ([], 2) := by unfold splitP; rw [if_pos h]
theorem splitP_none {s : ByteArray} (h : s.size = 0) : splitP s = ([], 60) := by unfold splitP; rw [if_neg (by omega), if_pos h]
theorem splitP_ok {s : ByteArray} {l : List P3} (h1 : s.size ≤ 65536) (h2 : ¬ s.size = 0) (h : splitR s = .ok l) : splitP s = (l, 0) := by unfold splitP; rw [if_neg (by omega), if_neg h2, h]
theorem splitP_bad {s : ByteArray} {e : Int} (h1 : s.size ≤ 65536) (h2 : ¬ s.size = 0) (h : splitR s = .error e) : splitP s = ([], e) := by unfold splitP; rw [if_neg (by omega), if_neg h2, h]
def Behind (s : ByteArray) (l : List P3) (r : ByteArray) : Prop := splitR s = (splitR r).map (l ++ ·)
theorem Behind.start (s : ByteArray) : Behind s [] s := by
 unfold Behind
 cases splitR s <;> rfl
theorem Behind.next {s r : ByteArray} {l : List P3} (h : Behind s l r) (hr : ¬ r.size = 0) (he : partErr r = 0) : Behind s (l ++ [partOf r]) (restOf r) := by
 unfold Behind at h ⊢
 rw [h, splitR_go hr he]
 cases splitR (restOf r) with
 | error e => rfl
 | ok m => show Except.ok _ = Except.ok _; simp
theorem Behind.bad {s r : ByteArray} {l : List P3} (h : Behind s l r) (hr : ¬ r.size = 0) (he : partErr r ≠ 0) : splitR s = .error (partErr r) := by
 unfold Behind at h
 rw [h, splitR_bad hr he]
 rfl
theorem Behind.done {s r : ByteArray} {l : List P3} (h : Behind s l r) (hr : r.size = 0) : splitR s = .ok l := by
 unfold Behind at h
 rw [h, splitR_nil hr]
 show Except.ok _ = Except.ok _
 simp
def partV (l : List P3) : List Value := l.flatMap fun x => [.int .i64 x.1, .int .i64 x.2.1, .string x.2.2]
theorem partV_length (l : List P3) : (partV l).length = l.length * 3 := by
 induction l with
 | nil => rfl
 | cons x l ih => simp only [partV, List.flatMap_cons, List.length_append, List.length_cons, List.length_nil] at ih ⊢; omega
theorem partV_snoc (l : List P3) (x : P3) : partV (l ++ [x]) = partV l ++ [.int .i64 x.1, .int .i64 x.2.1, .string x.2.2] := by simp [partV]
theorem partV_append (l m : List P3) : partV (l ++ m) = partV l ++ partV m := by simp [partV]
theorem partV_get {l : List P3} {i : Nat} {x : P3} (h : l[i]? = some x) : (partV l)[i * 3]? = some (.int .i64 x.1) ∧ (partV l)[i * 3 + 1]? = some (.int .i64 x.2.1) ∧ (partV l)[i * 3 + 2]? = some (.string x.2.2) := by
 obtain ⟨hi, rfl⟩ := List.getElem?_eq_some_iff.1 h
 have e : partV l = partV (l.take i) ++ ([.int .i64 l[i].1, .int .i64 l[i].2.1, .string l[i].2.2] ++ partV (l.drop (i + 1))) := by
  conv => lhs; rw [← List.take_append_drop i l, List.drop_eq_getElem_cons hi]
  rw [partV_append]
  rfl
 have hl : (partV (l.take i)).length = i * 3 := by rw [partV_length, List.length_take, Nat.min_eq_left (Nat.le_of_lt hi)]
 refine ⟨?_, ?_, ?_⟩ <;> rw [e, List.getElem?_append_right (by omega), hl]
 ·rw [Nat.sub_self]; rfl
 ·rw [Nat.add_sub_cancel_left]; rfl
 ·rw [Nat.add_sub_cancel_left]; rfl
end Go.Proofs.Ytgakmnholegbgaa.B
end
section
namespace Go.Proofs.Ytgakmnholegbgaa.B
open Go.RowKit Go.Proofs.YtgakmnholegbgaaW.PrintWords
def lostPart (f m : Nat) (k : Nat) : List Int := (f : Int) :: ((List.range k).filter fun i => m.testBit i).map fun i => (((f + i + 1) % 65536 : Nat) : Int)
theorem lostPart_zero (f m : Nat) : lostPart f m 0 = [(f : Int)] := rfl
theorem lostPart_yes (f m k : Nat) (h : m.testBit k = true) : lostPart f m (k + 1) = lostPart f m k ++ [(((f + k + 1) % 65536 : Nat) : Int)] := by
 simp [lostPart, List.range_succ, List.filter_append, h]
theorem lostPart_no (f m k : Nat) (h : m.testBit k = false) : lostPart f m (k + 1) = lostPart f m k := by
 simp [lostPart, List.range_succ, List.filter_append, h]
theorem lostPart_length (f m k : Nat) : (lostPart f m k).length ≤ k + 1 := by
 have := List.length_filter_le (fun i => m.testBit i) (List.range k)
 simp [lostPart] at this ⊢; omega
def lostAt (s : ByteArray) (j : Nat) : List Int := lostPart (rdBits s (64 + 32 * j) 16) (rdBits s (80 + 32 * j) 16) 16
def lostAll (s : ByteArray) (n : Nat) : List Int := (List.range n).flatMap (lostAt s)
theorem lostAll_succ (s : ByteArray) (n : Nat) : lostAll s (n + 1) = lostAll s n ++ lostAt s n := by simp [lostAll, List.range_succ]
theorem lostAll_length (s : ByteArray) (n : Nat) : (lostAll s n).length ≤ 17 * n := by
 induction n with
 | zero => simp [lostAll]
 | succ n ih => rw [lostAll_succ, List.length_append]; have := lostPart_length (rdBits s (64 + 32 * n) 16) (rdBits s (80 + 32 * n) 16) 16; unfold lostAt; omega
def nackDec (s : ByteArray) : Int × Int × List Int × Int :=
 if 65536 < s.size then (0, 0, [], 2) else if s.size % 4 ≠ 0 then (0, 0, [], 90) else if s.size < 12 then (0, 0, [], 60)
 else if 4096 < (lostAll s ((s.size - 8) / 4)).length then (0, 0, [], 3)
 else if goodB (lostAll s ((s.size - 8) / 4)) = true then ((rdBits s 0 32 : Int), (rdBits s 32 32 : Int), lostAll s ((s.size - 8) / 4), 0) else (0, 0, [], 110)
end Go.Proofs.Ytgakmnholegbgaa.B
end
section
namespace Go.Proofs.Ytgakmnholegbgaa.B
open Go.RowKit Go.Proofs.YtgakmnholegbgaaW.PrintWords Go.Proofs.YtgakmnholegbgaaW.PrintLast Go.Proofs.YtgakmnholegbgaaW.PrintMore
set_option linter.unusedVariables false
set_option linter.unusedSimpArgs false
def okB3 (x : B3) : Prop := (0 ≤ x.2.1 ∧ x.2.1 ≤ 65535) ∧ x.2.2.length ≤ 4096 ∧ ∀ m ∈ x.2.2, 0 ≤ m.2.2 ∧ m.2.2 ≤ 8191
theorem blockOf_ok {s : ByteArray} {a : Nat} (h : blockErr s a = 0) : okB3 (blockOf s a) := by
 have hn : rdBits s (a + 48) 16 ≤ 4096 := by
  unfold blockErr at h
  split at h
  ·cases h
  split at h
  ·cases h
  omega
 have h1 := rdBits_lt s (a + 32) 16
 unfold blockOf
 refine ⟨by dsimp only; omega, by dsimp only; rw [metrs_length]; exact hn, fun m hm => ?_⟩
 unfold metrs at hm
 obtain ⟨k, _, rfl⟩ := List.mem_map.1 hm
 have h2 := rdBits_lt s (a + 64 + 16 * k + 3) 13
 unfold metr
 dsimp only
 omega
theorem blksR_ok (s : ByteArray) : ∀ (n a m : Nat) (l : List B3) (e : Nat), 8 * s.size - a ≤ n → m ≤ 16 → blksR s a m = .ok (l, e) → m + l.length ≤ 16 ∧ ∀ x ∈ l, okB3 x := by
 intro n
 induction n with
 | zero =>
  intro a m l e hn hm h
  rw [blksR_end (by omega)] at h
  injection h with h
  injection h with h _
  subst h
  exact ⟨by simpa using hm, fun x hx => by simp at hx⟩
 | succ n ih =>
  intro a m l e hn hm h
  by_cases c1 : 8 * s.size - a ≤ 32
  ·rw [blksR_end c1] at h
   injection h with h
   injection h with h _
   subst h
   exact ⟨by simpa using hm, fun x hx => by simp at hx⟩
  by_cases c2 : m = 16
  ·rw [c2, blksR_many c1] at h
   cases h
  by_cases c3 : blockErr s a = 0
  ·rw [blksR_go c1 c2 c3] at h
   cases hb : blksR s (blockEnd s a) (m + 1) with
   | error e => rw [hb] at h; cases h
   | ok y =>
    rw [hb] at h
    injection h with h
    injection h with h1 h2
    subst h1
    have hlt := blockEnd_lt s a
    obtain ⟨i1, i2⟩ := ih (blockEnd s a) (m + 1) y.1 y.2 (by omega) (by omega) hb
    refine ⟨by simp only [List.length_cons]; omega, fun x hx => ?_⟩
    rcases List.mem_cons.1 hx with rfl | hx
    ·exact blockOf_ok c3
    ·exact i2 x hx
  ·rw [blksR_bad c1 c2 c3] at h
   cases h
theorem blksR_err (s : ByteArray) : ∀ (n a m : Nat) (e : Int), 8 * s.size - a ≤ n → blksR s a m = .error e → e ≠ 0 := by
 intro n
 induction n with
 | zero =>
  intro a m e hn h
  rw [blksR_end (by omega)] at h
  cases h
 | succ n ih =>
  intro a m e hn h
  by_cases c1 : 8 * s.size - a ≤ 32
  ·rw [blksR_end c1] at h; cases h
  by_cases c2 : m = 16
  ·rw [c2, blksR_many c1] at h
   injection h with h
   rw [← h]
   decide
  by_cases c3 : blockErr s a = 0
  ·rw [blksR_go c1 c2 c3] at h
   cases hb : blksR s (blockEnd s a) (m + 1) with
   | error e2 =>
    rw [hb] at h
    injection h with h
    have hlt := blockEnd_lt s a
    rw [← h]
    exact ih _ _ _ (by omega) hb
   | ok y => rw [hb] at h; cases h
  ·rw [blksR_bad c1 c2 c3] at h
   injection h with h
   rw [← h]
   exact c3
theorem ccfb_facts {s : ByteArray} (h : (ccfbP s).2 = 0) : (ccfbP s).1.2.1.length ≤ 16 ∧ (∀ x ∈ (ccfbP s).1.2.1, okB3 x) ∧ U32 (ccfbP s).1.2.2 := by
 unfold ccfbP at h ⊢
 split at h
 ·cases h
 split at h
 ·cases h
 split at h
 ·cases h
 rename_i c1 c2 c3
 rw [if_neg c1, if_neg c2, if_neg c3]
 cases hb : blksR s 32 0 with
 | error e =>
  rw [hb] at h
  exact absurd h (blksR_err s _ 32 0 e (Nat.le_refl _) hb)
 | ok y =>
  obtain ⟨l, a⟩ := y
  obtain ⟨i1, i2⟩ := blksR_ok s _ 32 0 l a (Nat.le_refl _) (by omega) hb
  have hr := rdBits_lt s a 32
  refine ⟨by dsimp only; omega, i2, ?_⟩
  unfold U32
  dsimp only
  omega
def sts (l : List Int) : Prop := ∀ x ∈ l, x = 0 ∨ x = 1 ∨ x = 2
theorem chL_sts {s : ByteArray} {a e left k n : Nat} (h : chOk s a e left k = true) (hn : n ≤ k) : sts (chL s a e n) := by
 intro x hx
 unfold chL at hx
 obtain ⟨i, hi, rfl⟩ := List.mem_map.1 hx
 unfold chOk at h
 rw [List.all_eq_true] at h
 have h2 := h i (List.mem_range.2 (by have := List.mem_range.1 hi; omega))
 simp only [Bool.and_eq_true, decide_eq_true_eq] at h2
 obtain ⟨h2, _⟩ := h2
 generalize chS s a e i = v at *
 omega
theorem chunkP_sts {s : ByteArray} {a left : Nat} : sts (chunkP s a left).1 := by
 unfold chunkP
 split
 ·intro x hx; simp at hx
 split
 ·split
  ·intro x hx; simp at hx
  ·rename_i c
   intro x hx
   have := (List.mem_replicate.1 hx).2
   omega
 split
 ·split
  ·rename_i c
   exact chL_sts c (by omega)
  ·intro x hx; simp at hx
 ·split
  ·rename_i c
   exact chL_sts c (by omega)
  ·intro x hx; simp at hx
theorem statsR_ok (s : ByteArray) : ∀ (n a left : Nat) (l : List Int) (e : Nat), left ≤ n → statsR s a left = .ok (l, e) → l.length = left ∧ sts l := by
 intro n
 induction n with
 | zero =>
  intro a left l e hn h
  obtain rfl : left = 0 := by omega
  rw [statsR_end] at h
  injection h with h
  injection h with h _
  subst h
  exact ⟨rfl, fun x hx => by simp at hx⟩
 | succ n ih =>
  intro a left l e hn h
  by_cases c1 : left = 0
  ·subst c1
   rw [statsR_end] at h
   injection h with h
   injection h with h _
   subst h
   exact ⟨rfl, fun x hx => by simp at hx⟩
  by_cases c2 : (chunkP s a left).2 = 0
  ·rw [statsR_go c1 c2] at h
   have hp := chunkP_pos c2 c1
   have hl := @chunkP_len s a left
   cases hb : statsR s (a + 16) (left - (chunkP s a left).1.length) with
   | error e => rw [hb] at h; cases h
   | ok y =>
    rw [hb] at h
    injection h with h
    injection h with h1 h2
    subst h1
    obtain ⟨i1, i2⟩ := ih _ _ y.1 y.2 (by omega) hb
    refine ⟨by rw [List.length_append, i1]; omega, fun x hx => ?_⟩
    rcases List.mem_append.1 hx with hx | hx
    ·exact chunkP_sts x hx
    ·exact i2 x hx
  ·rw [statsR_bad c1 c2] at h
   cases h
theorem statsR_err (s : ByteArray) : ∀ (n a left : Nat) (e : Int), left ≤ n → statsR s a left = .error e → e ≠ 0 := by
 intro n
 induction n with
 | zero =>
  intro a left e hn h
  obtain rfl : left = 0 := by omega
  rw [statsR_end] at h
  cases h
 | succ n ih =>
  intro a left e hn h
  by_cases c1 : left = 0
  ·subst c1
   rw [statsR_end] at h
   cases h
  by_cases c2 : (chunkP s a left).2 = 0
  ·rw [statsR_go c1 c2] at h
   have hp := chunkP_pos c2 c1
   cases hb : statsR s (a + 16) (left - (chunkP s a left).1.length) with
   | error e2 =>
    rw [hb] at h
    injection h with h
    rw [← h]
    exact ih _ _ _ (by omega) hb
   | ok y => rw [hb] at h; cases h
  ·rw [statsR_bad c1 c2] at h
   injection h with h
   rw [← h]
   exact c2
theorem cnt_cons (x : Int) (l : List Int) : ((x :: l).filter fun x => decide (0 < x)).length = (if 0 < x then 1 else 0) + (l.filter fun x => decide (0 < x)).length := by
 by_cases h : 0 < x
 ·rw [List.filter_cons_of_pos (by simpa using h), if_pos h, List.length_cons]; omega
 ·rw [List.filter_cons_of_neg (by simpa using h), if_neg h]; omega
theorem deltasR_cnt (s : ByteArray) : ∀ (l : List Int) (a : Nat) (y : List Int × Nat), sts l → deltasR s a l = some y → (l.filter fun x => decide (0 < x)).length = y.1.length
 | [], a, y, _, h => by
  unfold deltasR at h
  injection h with h
  subst h
  rfl
 | x :: l, a, y, hs, h => by
  have hx := hs x List.mem_cons_self
  have hl : sts l := fun z hz => hs z (List.mem_cons_of_mem _ hz)
  rw [cnt_cons]
  unfold deltasR at h
  split at h
  ·split at h
   ·cases hd : deltasR s (a + 8) l with
    | none => rw [hd] at h; cases h
    | some z =>
     rw [hd] at h
     injection h with h
     subst h
     have := deltasR_cnt s l (a + 8) z hl hd
     rw [if_pos (by omega)]
     simp only [List.length_cons]
     omega
   ·cases h
  ·split at h
   ·split at h
    ·cases hd : deltasR s (a + 16) l with
     | none => rw [hd] at h; cases h
     | some z =>
      rw [hd] at h
      injection h with h
      subst h
      have := deltasR_cnt s l (a + 16) z hl hd
      rw [if_pos (by omega)]
      simp only [List.length_cons]
      omega
    ·cases h
   ·have := deltasR_cnt s l a y hl h
    rw [if_neg (by omega)]
    omega
theorem cntK_all (l : List Int) : cntK l l.length = (l.filter fun x => decide (0 < x)).length := by simp [cntK]
theorem twcc_facts {s : ByteArray} (h : (twccP s).2 = 0) : (twccP s).1.status.length ≤ 4096 ∧ cntK (twccP s).1.status (twccP s).1.status.length ≤ (twccP s).1.deltas.length ∧ (0 ≤ (twccP s).1.first ∧ (twccP s).1.first ≤ 65535) ∧ I64 (twccP s).1.base := by
 unfold twccP at h ⊢
 split at h
 ·cases h
 split at h
 ·cases h
 split at h
 ·cases h
 split at h
 ·cases h
 split at h
 ·cases h
 rename_i c1 c2 c3 c4 c5
 rw [if_neg c1, if_neg c2, if_neg c3, if_neg c4, if_neg c5]
 cases hb : statsR s 128 (rdBits s 80 16) with
 | error e =>
  rw [hb] at h
  exact absurd h (statsR_err s _ 128 _ e (Nat.le_refl _) hb)
 | ok y =>
  obtain ⟨l, a⟩ := y
  obtain ⟨i1, i2⟩ := statsR_ok s _ 128 _ l a (Nat.le_refl _) hb
  rw [hb] at h
  dsimp only at h ⊢
  cases hd : deltasR s a l with
  | none => rw [hd] at h; cases h
  | some z =>
   obtain ⟨d, b⟩ := z
   rw [hd] at h
   dsimp only at h ⊢
   split at h
   ·cases h
   rename_i c6
   rw [if_neg c6]
   dsimp only
   have h1 := rdBits_lt s 64 16
   have h2 := signed_range (rdBits s 96 24) 24 (rdBits_lt s 96 24) (.inl rfl)
   refine ⟨by omega, ?_, by omega, by unfold I64; omega⟩
   rw [cntK_all, deltasR_cnt s l a _ i2 hd]
   exact Nat.le_refl _
theorem nack_facts {s : ByteArray} (h : (nackDec s).2.2.2 = 0) : 0 < (nackDec s).2.2.1.length ∧ (nackDec s).2.2.1.length ≤ 4096 := by
 unfold nackDec at h ⊢
 split at h
 ·cases h
 split at h
 ·cases h
 split at h
 ·cases h
 split at h
 ·cases h
 rename_i c1 c2 c3 c4
 rw [if_neg c1, if_neg c2, if_neg c3, if_neg c4]
 split at h
 ·rename_i hg
  rw [if_pos hg]
  dsimp only
  refine ⟨?_, by omega⟩
  generalize lostAll s ((s.size - 8) / 4) = l at *
  cases l with
  | nil => simp [goodB] at hg
  | cons x l => simp
 ·cases h
abbrev Fd := List R5 × List Int × Nat
def Fd.add (a b : Fd) : Fd := (a.1 ++ b.1, a.2.1 ++ b.2.1, a.2.2 + b.2.2)
def fdNil : Fd := ([], [], 0)
theorem Fd.add_nil (a : Fd) : a.add fdNil = a := by simp [Fd.add, fdNil]
theorem Fd.nil_add (a : Fd) : fdNil.add a = a := by simp [Fd.add, fdNil]
theorem Fd.add_assoc (a b c : Fd) : (a.add b).add c = a.add (b.add c) := by simp [Fd.add, Nat.add_assoc]
def fdOne (near : Int) (x : P3) : Except Int Fd :=
 if x.1 = 11 ∧ x.2.1 = 205 then (if (ccfbP x.2.2).2 = 0 then .ok (repsB (fromP (ccfbP x.2.2).1.2.2 near) (ccfbP x.2.2).1.2.1, [], 1) else .error (ccfbP x.2.2).2)
 else if x.1 = 15 ∧ x.2.1 = 205 then (if (twccP x.2.2).2 = 0 then .ok (reps2 (twccP x.2.2).1.first (baseP near (twccP x.2.2).1.base) (twccP x.2.2).1.status (twccP x.2.2).1.deltas (twccP x.2.2).1.status.length, [], 1) else .error (twccP x.2.2).2)
 else if x.1 = 1 ∧ x.2.1 = 205 then (if (nackDec x.2.2).2.2.2 = 0 then .ok ([], (nackDec x.2.2).2.2.1, 1) else .error (nackDec x.2.2).2.2.2)
 else .ok fdNil
def fdAll (near : Int) : List P3 → Except Int Fd
 | [] => .ok fdNil
 | x :: l => match fdOne near x with
  | .error e => .error e
  | .ok a => match fdAll near l with
   | .error e => .error e
   | .ok b => .ok (a.add b)
def FdAt (near : Int) (l : List P3) (i : Nat) (a : Fd) : Prop := fdAll near l = match fdAll near (l.drop i) with
 | .error e => .error e
 | .ok b => .ok (a.add b)
theorem FdAt.start (near : Int) (l : List P3) : FdAt near l 0 fdNil := by
 unfold FdAt
 rw [List.drop_zero]
 cases fdAll near l with
 | error e => rfl
 | ok b =>
  dsimp only
  rw [Fd.nil_add]
theorem FdAt.next {near : Int} {l : List P3} {i : Nat} {a b : Fd} {x : P3} (h : FdAt near l i a) (hx : l[i]? = some x) (ho : fdOne near x = .ok b) : FdAt near l (i + 1) (a.add b) := by
 unfold FdAt at h ⊢
 obtain ⟨hi, rfl⟩ := List.getElem?_eq_some_iff.1 hx
 rw [h, List.drop_eq_getElem_cons hi, fdAll, ho]
 dsimp only
 cases fdAll near (l.drop (i + 1)) with
 | error e => rfl
 | ok c =>
  dsimp only
  rw [Fd.add_assoc]
theorem FdAt.bad {near : Int} {l : List P3} {i : Nat} {a : Fd} {x : P3} {e : Int} (h : FdAt near l i a) (hx : l[i]? = some x) (ho : fdOne near x = .error e) : fdAll near l = .error e := by
 unfold FdAt at h
 obtain ⟨hi, rfl⟩ := List.getElem?_eq_some_iff.1 hx
 rw [h, List.drop_eq_getElem_cons hi, fdAll, ho]
theorem FdAt.done {near : Int} {l : List P3} {a : Fd} (h : FdAt near l l.length a) : fdAll near l = .ok a := by
 unfold FdAt at h
 rw [h, List.drop_length, fdAll]
 dsimp only
 rw [Fd.add_nil]
def nearF (near : Int) : Int := min (max near 0) 1125899906842624
def feedP (s : ByteArray) (near : Int) : (List R5 × List Int) × Int :=
 if (splitP s).2 ≠ 0 then (([], []), (splitP s).2) else match fdAll (nearF near) (splitP s).1 with
  | .error e => (([], []), e)
  | .ok (r, a, k) => if k = 0 then (([], []), 120) else if 4096 < r.length ∨ 4096 < a.length then (([], []), 3) else ((r, a), 0)
theorem feedP_split {s : ByteArray} {near : Int} (h : (splitP s).2 ≠ 0) : feedP s near = (([], []), (splitP s).2) := by unfold feedP; rw [if_pos h]
theorem feedP_bad {s : ByteArray} {near e : Int} (h : (splitP s).2 = 0) (hf : fdAll (nearF near) (splitP s).1 = .error e) : feedP s near = (([], []), e) := by unfold feedP; rw [if_neg (by simp [h]), hf]
theorem feedP_ok {s : ByteArray} {near : Int} {r : List R5} {a : List Int} {k : Nat} (h : (splitP s).2 = 0) (hf : fdAll (nearF near) (splitP s).1 = .ok (r, a, k)) : feedP s near = if k = 0 then (([], []), 120) else if 4096 < r.length ∨ 4096 < a.length then (([], []), 3) else ((r, a), 0) := by unfold feedP; rw [if_neg (by simp [h]), hf]
theorem fd_one1 {near : Int} {x : P3} (h : x.1 = 11 ∧ x.2.1 = 205) (he : (ccfbP x.2.2).2 = 0) : fdOne near x = .ok (repsB (fromP (ccfbP x.2.2).1.2.2 near) (ccfbP x.2.2).1.2.1, [], 1) := by unfold fdOne; rw [if_pos h, if_pos he]
theorem fd_bad1 {near : Int} {x : P3} (h : x.1 = 11 ∧ x.2.1 = 205) (he : (ccfbP x.2.2).2 ≠ 0) : fdOne near x = .error (ccfbP x.2.2).2 := by unfold fdOne; rw [if_pos h, if_neg he]
theorem fd_one2 {near : Int} {x : P3} (h : x.1 = 15 ∧ x.2.1 = 205) (he : (twccP x.2.2).2 = 0) : fdOne near x = .ok (reps2 (twccP x.2.2).1.first (baseP near (twccP x.2.2).1.base) (twccP x.2.2).1.status (twccP x.2.2).1.deltas (twccP x.2.2).1.status.length, [], 1) := by unfold fdOne; rw [if_neg (by omega), if_pos h, if_pos he]
theorem fd_bad2 {near : Int} {x : P3} (h : x.1 = 15 ∧ x.2.1 = 205) (he : (twccP x.2.2).2 ≠ 0) : fdOne near x = .error (twccP x.2.2).2 := by unfold fdOne; rw [if_neg (by omega), if_pos h, if_neg he]
theorem fd_one3 {near : Int} {x : P3} (h : x.1 = 1 ∧ x.2.1 = 205) (he : (nackDec x.2.2).2.2.2 = 0) : fdOne near x = .ok ([], (nackDec x.2.2).2.2.1, 1) := by unfold fdOne; rw [if_neg (by omega), if_neg (by omega), if_pos h, if_pos he]
theorem fd_bad3 {near : Int} {x : P3} (h : x.1 = 1 ∧ x.2.1 = 205) (he : (nackDec x.2.2).2.2.2 ≠ 0) : fdOne near x = .error (nackDec x.2.2).2.2.2 := by unfold fdOne; rw [if_neg (by omega), if_neg (by omega), if_pos h, if_neg he]
theorem fd_none {near : Int} {x : P3} (h : ¬ (x.2.1 = 205 ∧ (x.1 = 11 ∨ x.1 = 15 ∨ x.1 = 1))) : fdOne near x = .ok fdNil := by unfold fdOne; rw [if_neg (by omega), if_neg (by omega), if_neg (by omega)]
theorem fdOne_le {near : Int} {x : P3} {a : Fd} (h : fdOne near x = .ok a) : a.1.length ≤ 65536 := by
 unfold fdOne at h
 split at h
 ·split at h
  ·rename_i he
   injection h with h
   subst h
   obtain ⟨h1, h2, _⟩ := ccfb_facts he
   have := repsB_le (fromP (ccfbP x.2.2).1.2.2 near) _ (fun y hy => (h2 y hy).2.1)
   dsimp only
   omega
  ·cases h
 split at h
 ·split at h
  ·rename_i he
   injection h with h
   subst h
   obtain ⟨h1, _⟩ := twcc_facts he
   dsimp only
   rw [reps2_length]
   omega
  ·cases h
 split at h
 ·split at h
  ·injection h with h
   subst h
   simp
  ·cases h
 ·injection h with h
  subst h
  simp [fdNil]
end Go.Proofs.Ytgakmnholegbgaa.B
end
section
namespace Go.Proofs.Ytgakmnholegbgaa.B
open Go.RowKit Go.Proofs.YtgakmnholegbgaaW.PrintWords Go.Proofs.YtgakmnholegbgaaW.PrintLast Go.Proofs.YtgakmnholegbgaaW.PrintMore
set_option linter.unusedVariables false
set_option linter.unusedSimpArgs false
theorem below_base {w w1 w5 : World} {b : Nat} {row : Option Nat} (hb : Below b w w1) (hG : w1.grownBy w5 row) (hr : ∀ k, row = some k → b ≤ k) (h0 : b ≤ w1.heap.size) : Below b w w5 :=
 ⟨hG.os.trans hb.os, hG.tape.trans hb.tape, hG.output.trans hb.output, Nat.le_trans hb.size hG.size, fun k hk => (hG.block k (Nat.lt_of_lt_of_le hk h0) (fun e => by have := hr k e.symm; omega)).trans (hb.block k hk)⟩
def SecPost (w : World) (p b : Nat) (vA : Value) (R : List R5) (e : Ending) (w' : World) : Prop := e = .returned (.tuple #[]) ∧ ∃ vR, w'.heap[p]? = some (.cells #[vR, vA] 26 (0, 0)) ∧ RowV w' b 58 5 vR R.length (repV R) ∧ Below b w w' ∧ Fr p w w'
def SRel (w : World) (p b g4 : Nat) (S M F B C : Int) (vA : Value) (SA DA : Option Addr) (sc dc : Nat) (l ds : List Int) (a0 : Int) (R : List R5) (v6 v7 v20 : Value) (wr : World) : Prop := ∃ (i : Nat) (vR : Value), v20 = .int .i64 i ∧ i ≤ l.length ∧ v6 = .int .i64 (atK a0 ds (cntK l i)) ∧ v7 = .int .i64 (cntK l i) ∧ Aside0 (wr.heap[p]? = some (.cells #[vR, vA] 26 (0, 0))) ∧ Aside0 (wr.heap[g4]? = some (.cells #[.int .u32 S, .int .u32 M, .int .i64 F, .int .i64 B, .int .i64 C, .slice SA l.length sc, .slice DA ds.length dc] 72 (0, 0))) ∧
 Aside0 (RowV wr b 58 5 vR (R.length + i) (repV (R ++ reps2 F a0 l ds i))) ∧ Aside0 (RowV wr b 3 1 (.slice SA l.length sc) l.length (iV l)) ∧ Aside0 (RowV wr b 3 1 (.slice DA ds.length dc) ds.length (iV ds)) ∧ Aside0 (Below b w wr) ∧ Aside0 (Fr p w wr)
set_option maxHeartbeats 16000000 in
set_option maxRecDepth 100000 in
theorem second_any (w : World) (p b : Nat) (vR vA vS vD : Value) (R : List R5) (S M F B C near : Int) (l ds : List Int) (hp : w.heap[p]? = some (.cells #[vR, vA] 26 (0, 0))) (hbp : b ≤ p) (hR : RowV w b 58 5 vR R.length (repV R)) (hS : RowV w b 3 1 vS l.length (iV l)) (hD : RowV w b 3 1 vD ds.length (iV ds))
  (hc : cntK l l.length ≤ ds.length) (hF : 0 ≤ F ∧ F ≤ 65535) (hB : I64 B) (hn : I64 near) (hl : l.length ≤ 4096) (hRl : R.length ≤ 10000000000) :
  Calls Try.prog 20 #[.pointer (some ⟨p, 0, none⟩), .agg #[.int .u32 S, .int .u32 M, .int .i64 F, .int .i64 B, .int .i64 C, vS, vD], .int .i64 near] w (SecPost w p b vA (R ++ reps2 F (baseP near B) l ds l.length)) := by
 obtain ⟨SA, sc, rfl, -, -⟩ := hS.form
 obtain ⟨DA, dc, rfl, -, -⟩ := hD.form
 have hpl := blk_lt hp
 have nS := hS.ne hp (by decide)
 have nD := hD.ne hp (by decide)
 obtain ⟨a0, ha0⟩ : ∃ a, a = baseP near B := ⟨_, rfl⟩
 rw [← ha0]
 have HA0 := Aside0.mk ha0
 have HNS := Aside0.mk nS
 have HND := Aside0.mk nD
 have HC := Aside0.mk hc
 have CD := Aside0.mk (fun w => do_any near 1 64000 1 hn (by unfold I64; omega) (by unfold I64; omega) w)
 obtain ⟨q, hq⟩ : ∃ q, q = mdo near 1 64000 1 := ⟨_, rfl⟩
 rw [← hq] at CD
 have hq6 : I64 q := by rw [hq]; exact mdo_range _ _ _ _
 have CN := Aside0.mk (fun w => near24 q B w hq6 hB)
 have HQ := Aside0.mk hq
 clear hq ha0 hc nS nD
 have HP0 := Aside0.mk hp
 have HR0 := Aside0.mk hR
 have HS0 := Aside0.mk hS
 have HD0 := Aside0.mk hD
 clear hp hR hS hD
 go_enter Try.func20, Try.ntmps20
 go_upto_region 1 with fail
 have K4 := Aside0.mk (blk_new w (.cells #[.int .u32 S, .int .u32 M, .int .i64 F, .int .i64 B, .int .i64 C, .slice SA l.length sc, .slice DA ds.length dc] 72))
 have K0 := Aside0.mk (gb_blk (World.grownBy_alloc w (.cells #[.int .u32 S, .int .u32 M, .int .i64 F, .int .i64 B, .int .i64 C, .slice SA l.length sc, .slice DA ds.length dc] 72) none) HP0.out (fun k hk => by cases hk))
 have HR := Aside0.mk (HR0.out.alloc (.cells #[.int .u32 S, .int .u32 M, .int .i64 F, .int .i64 B, .int .i64 C, .slice SA l.length sc, .slice DA ds.length dc] 72))
 have HS := Aside0.mk (HS0.out.alloc (.cells #[.int .u32 S, .int .u32 M, .int .i64 F, .int .i64 B, .int .i64 C, .slice SA l.length sc, .slice DA ds.length dc] 72))
 have HD := Aside0.mk (HD0.out.alloc (.cells #[.int .u32 S, .int .u32 M, .int .i64 F, .int .i64 B, .int .i64 C, .slice SA l.length sc, .slice DA ds.length dc] 72))
 have HB := Aside0.mk ((Below.refl b w).alloc (Nat.le_trans hbp (Nat.le_of_lt hpl)) (.cells #[.int .u32 S, .int .u32 M, .int .i64 F, .int .i64 B, .int .i64 C, .slice SA l.length sc, .slice DA ds.length dc] 72))
 have HFr := Aside0.mk (Fr.alloc p w (.cells #[.int .u32 S, .int .u32 M, .int .i64 F, .int .i64 B, .int .i64 C, .slice SA l.length sc, .slice DA ds.length dc] 72))
 have n4 : w.heap.size ≠ p := by omega
 generalize w.alloc (.cells #[.int .u32 S, .int .u32 M, .int .i64 F, .int .i64 B, .int .i64 C, .slice SA l.length sc, .slice DA ds.length dc] 72) = w1 at *
 have c3 := blk_cell K4.out 3
 simp only [List.getElem?_toArray, List.getElem?_cons_zero, List.getElem?_cons_succ] at c3
 refine start_ (n := 7) (S := fun w' => w'.cell? ⟨w.heap.size, 3, none⟩ = some (.int .i64 B)) (ds := [4, 6]) #[false, false, false, false, false, false, false] (by kernel_rfl) rfl rfl (c3) (fun hHeld => ?_)
 refine pure_ (i := 0) (N := some 11) (v := ?_) (a' := ?_) #[true, false, false, false, false, false, false] rfl rfl (by kernel_rfl) (fun _ _ _ h => h) (Or.inl ⟨by rfl, ?_⟩) ?_ ?_
 rotate_left
 ·intro w'
  go_simp
  with_reducible rfl
 rotate_left
 ·simp only [Act.put, List.setIfInBounds_toArray, List.set_cons_zero, List.set_cons_succ, i64_w, i32_w]
  rfl
 refine pure_ (i := 2) (N := some 13) (v := ?_) (a' := ?_) #[true, false, true, false, false, false, false] rfl rfl (by kernel_rfl) (fun _ _ _ h => h) (Or.inl ⟨by rfl, ?_⟩) ?_ ?_
 rotate_left
 ·intro w'
  go_simp
  with_reducible rfl
 rotate_left
 ·simp only [Act.put, List.setIfInBounds_toArray, List.set_cons_zero, List.set_cons_succ, i64_w, i32_w]
  rfl
 refine take_ (i := 3) (N := some 14) (v := ?_) (a' := ?_) #[true, false, true, true, false, false, false] rfl rfl (by kernel_rfl) (fun _ _ _ h => h) (Or.inl ⟨by rfl, ?_⟩) hHeld ?_ ?_
 rotate_left
 ·intro w' s0
  go_simp
  with_reducible rfl
 rotate_left
 ·simp only [Act.put, List.setIfInBounds_toArray, List.set_cons_zero, List.set_cons_succ, i64_w, i32_w]
  rfl
 refine one_ (i := 1) (N := some 12) #[true, true, true, true, false, false, false] rfl rfl (by kernel_rfl) (by decide) (fun K hK => ?_)
 refine goes_ Try.func44 (by kernel_rfl) rfl #[.int .i64 near, .int .i64 1, .int .i64 64000, .int .i64 1] (by rfl) rfl rfl (by simp only [List.map_toArray, List.map_cons, List.map_nil]; rfl) ?_
 with_reducible refine (CD.out _).mono ?_
 rintro e w2 ⟨rfl, hb2⟩
 refine ⟨_, rfl, ?_⟩
 have Y4 := Aside0.mk ((hb2.block w.heap.size (by have := blk_lt K4.out; exact this)).trans K4.out)
 have y3 := blk_cell Y4.out 3
 simp only [List.getElem?_toArray, List.getElem?_cons_zero, List.getElem?_cons_succ] at y3
 have HB2 := Aside0.mk hb2
 clear hb2
 refine hK.out _ _ (y3) (fun hHeld => ?_)
 clear hK K
 refine norm_ (a' := ?_) ?_ ?_
 rotate_left
 ·show Act.put _ (some 12) _ = _
  simp only [Act.put, List.setIfInBounds_toArray, List.set_cons_zero, List.set_cons_succ, i64_w, i32_w]
  rfl
 refine last_ (i := 4) (N := some 15) #[true, true, true, true, true, false, false] rfl rfl (by kernel_rfl) (by decide) (fun K hK => ?_)
 refine goes_ Try.func45 (by kernel_rfl) rfl #[.int .i64 q, .int .i64 B, .int .i64 24] (by rfl) rfl rfl (by simp only [List.map_toArray, List.map_cons, List.map_nil]; rfl) ?_
 with_reducible refine (CN.out _).mono ?_
 rintro e w3 ⟨rfl, hw3⟩
 refine ⟨_, rfl, ?_⟩
 obtain rfl := hw3.symm
 refine hK.out _ _ ?_
 clear hK K
 refine norm_ (a' := ?_) ?_ ?_
 rotate_left
 ·show Act.put _ (some 15) _ = _
  simp only [Act.put, List.setIfInBounds_toArray, List.set_cons_zero, List.set_cons_succ, i64_w, i32_w]
  rfl
 refine pure_ (i := 5) (N := some 16) (v := ?_) (a' := ?_) #[true, true, true, true, true, true, false] rfl rfl (by kernel_rfl) (fun _ _ _ h => h) (Or.inl ⟨by rfl, ?_⟩) ?_ ?_
 rotate_left
 ·intro w'
  go_simp
  with_reducible rfl
 rotate_left
 ·simp only [Act.put, List.setIfInBounds_toArray, List.set_cons_zero, List.set_cons_succ, i64_w, i32_w]
  rfl
 refine pure_ (i := 6) (N := some 6) (v := ?_) (a' := ?_) #[true, true, true, true, true, true, true] rfl rfl (by kernel_rfl) (fun _ _ _ h => h) (Or.inl ⟨by rfl, ?_⟩) ?_ ?_
 rotate_left
 ·intro w'
  go_simp
  with_reducible rfl
 rotate_left
 ·simp only [Act.put, List.setIfInBounds_toArray, List.set_cons_zero, List.set_cons_succ, i64_w, i32_w]
  rfl
 refine done_ (by kernel_rfl) ?_
 obtain ⟨g4, hg4⟩ : ∃ g, g = w.heap.size := ⟨_, rfl⟩
 rw [← hg4] at Y4 n4 ⊢
 have hB12 : Below w1.heap.size w1 w2 := ((Below.refl _ _).drew).trans HB2.out
 have hb1 : b ≤ w1.heap.size := Nat.le_trans hbp (Nat.le_of_lt (blk_lt K0.out))
 replace K0 := Aside0.mk ((hB12.block p (blk_lt K0.out)).trans K0.out)
 replace HR := Aside0.mk (HR.out.below hB12)
 replace HS := Aside0.mk (HS.out.below hB12)
 replace HD := Aside0.mk (HD.out.below hB12)
 replace HB := Aside0.mk (HB.out.trans (hB12.mono hb1))
 replace HFr := Aside0.mk (HFr.out.trans (Fr.of_below hB12))
 replace K4 := Y4
 have ea : wrap64 (64000 * nearP 16777216 q B) = a0 := by rw [HA0.out, HQ.out]; rfl
 rw [ea]
 clear Y4 c3 y3 HB2 hB12 hb1 hHeld hw3 hg4 CD CN ea HP0 HR0 HS0 HD0
 try clear hHeld
 have c5 := blk_cell K4.out 5
 simp only [List.getElem?_toArray, List.getElem?_cons_zero, List.getElem?_cons_succ] at c5
 go_wp2_with fail
 go_loopw [6, 7, 8, 9, 10, 20] (fun v6 v7 _ _ _ v20 wr => SRel w p b g4 S M F B C vA SA DA sc dc l ds a0 R v6 v7 v20 wr) (fun _ _ _ _ _ v _ => l.length - (intOf v).toNat)
 case atStart => exact ⟨0, vR, rfl, by omega, rfl, rfl, K0, K4, by simpa [reps2] using HR, HS, HD, HB, HFr⟩
 case round =>
  clear K0 K4 HR HS HD HB HFr c5
  obtain ⟨i, vr, rfl, hi, rfl, rfl, K0, K4, HR, HS, HD, HB, HFr⟩ := hrel
  by_cases hlt : i < l.length
  ·have q4 : decide ((i : Int) < (l.length : Int)) = true := decide_eq_true (by omega)
   obtain ⟨x, hx⟩ : ∃ x, l[i]? = some x := ⟨l[i]'hlt, List.getElem?_eq_getElem hlt⟩
   obtain ⟨sa, so, sc', e_, _, _, _, hxa⟩ := HS.out.some_ (by omega)
   injection e_ with e_ _ e2_
   subst e_
   subst e2_
   have ux := hxa i (.int .i64 x) (by simp [iV, hx])
   have i0 : (0 : Int) ≤ (i : Int) := by omega
   have i1 : (i : Int) < (l.length : Int) := by omega
   have HX := Aside0.mk hx
   clear hx hxa
   have HNS2 := Aside0.mk (HS.out.ne K0.out (by decide))
   have HND2 := Aside0.mk (HD.out.ne K0.out (by decide))
   have c2 := blk_cell K4.out 2
   simp only [List.getElem?_toArray, List.getElem?_cons_zero, List.getElem?_cons_succ] at c2
   by_cases hx0 : 0 < x
   ·have p1 : decide (0 < x) = true := decide_eq_true hx0
    have hcn : cntK l i < ds.length := by
     have h1 := cntK_yes HX.out hx0
     have h2 := cntK_mono l (show i + 1 ≤ l.length by omega)
     have h3 := HC.out
     omega
    obtain ⟨k, hk⟩ : ∃ k, k = cntK l i := ⟨_, rfl⟩
    have hki : k ≤ i := by rw [hk]; exact cntK_le l i
    rw [← hk] at hcn ⊢
    have HK := Aside0.mk hk
    clear hk
    obtain ⟨A, hA⟩ : ∃ A, A = atK a0 ds k := ⟨_, rfl⟩
    rw [← hA]
    have HA := Aside0.mk hA
    have HX0 := Aside0.mk hx0
    clear hx0 hA
    obtain ⟨d, hd⟩ : ∃ d, ds[k]? = some d := ⟨ds[k]'hcn, List.getElem?_eq_getElem hcn⟩
    obtain ⟨da, do_, dc', e_, _, _, _, hxd⟩ := HD.out.some_ (by omega)
    injection e_ with e_ _ e2_
    subst e_
    subst e2_
    have ud := hxd k (.int .i64 d) (by simp [iV, hd])
    have k0 : (0 : Int) ≤ (k : Int) := by omega
    have k1 : (k : Int) < (ds.length : Int) := by omega
    have HDD := Aside0.mk hd
    clear hd hxd
    have c6 := blk_cell K4.out 6
    simp only [List.getElem?_toArray, List.getElem?_cons_zero, List.getElem?_cons_succ] at c6
    have z6 : ∀ o, (wr.alloc o).cell? ⟨g4, 6, none⟩ = some (.slice (some ⟨da, do_, none⟩) ds.length dc) := fun o => (World.cell?_alloc_past _ _ _ (blk_lt K4.out)).trans c6
    have zd : ∀ o, (wr.alloc o).cell? ⟨da, do_ + k, none⟩ = some (.int .i64 d) := fun o => (World.cell?_alloc_past _ _ _ ((HD.out.lt (k := da) rfl).1)).trans ud
    go_wp2_with fail
    refine (cut16 _ _ (by unfold I64; omega)).mono ?_
    rintro e w5 ⟨rfl, hw5⟩
    obtain rfl := hw5.symm
    go_wp2_with fail
    have ez : (k : Int) + 1 = ((k + 1 : Nat) : Int) := by omega
    rw [ez]
    clear ez
    have hrep : rep2 F a0 l ds i = ((F + (i : Int)) % 65536, true, wrap64 (A + wrap64 (250 * d)), false, false) := by
     unfold rep2
     rw [show l.getD i 0 = x by simp [HX.out], if_pos HX0.out, ← HK.out, show atK a0 ds (k + 1) = wrap64 (atK a0 ds k + wrap64 (250 * ds.getD k 0)) from rfl, ← HA.out, show ds.getD k 0 = d by simp [HDD.out], decide_eq_true HX0.out]
    have hcnt : cntK l (i + 1) = k + 1 := by rw [cntK_yes HX.out HX0.out, ← HK.out]
    have hat : atK a0 ds (cntK l (i + 1)) = wrap64 (A + wrap64 (250 * d)) := by
     rw [hcnt, show atK a0 ds (k + 1) = wrap64 (atK a0 ds k + wrap64 (250 * ds.getD k 0)) from rfl, ← HA.out, show ds.getD k 0 = d by simp [HDD.out]]
    obtain ⟨V, hV⟩ : ∃ V, V = wrap64 (A + wrap64 (250 * d)) := ⟨_, rfl⟩
    rw [← hV] at hrep hat ⊢
    clear hV
    replace hrep := Aside0.mk hrep
    replace hcnt := Aside0.mk hcnt
    replace hat := Aside0.mk hat
    clear c2 c6 z6 zd ux ud
    have X1 := Aside0.mk (blk_new wr (.cells #[.int .i64 ((F + (i : Int)) % 65536), .bool true, .int .i64 V, .bool false, .bool false] 58))
    replace K0 := Aside0.mk (gb_blk (World.grownBy_alloc wr (.cells #[.int .i64 ((F + (i : Int)) % 65536), .bool true, .int .i64 V, .bool false, .bool false] 58) none) K0.out (fun k hk => by cases hk))
    replace K4 := Aside0.mk (gb_blk (World.grownBy_alloc wr (.cells #[.int .i64 ((F + (i : Int)) % 65536), .bool true, .int .i64 V, .bool false, .bool false] 58) none) K4.out (fun k hk => by cases hk))
    replace HR := Aside0.mk (HR.out.alloc (.cells #[.int .i64 ((F + (i : Int)) % 65536), .bool true, .int .i64 V, .bool false, .bool false] 58))
    replace HS := Aside0.mk (HS.out.alloc (.cells #[.int .i64 ((F + (i : Int)) % 65536), .bool true, .int .i64 V, .bool false, .bool false] 58))
    replace HD := Aside0.mk (HD.out.alloc (.cells #[.int .i64 ((F + (i : Int)) % 65536), .bool true, .int .i64 V, .bool false, .bool false] 58))
    have hbw := HB.out.size
    replace HFr := Aside0.mk (HFr.out.trans (Fr.alloc p wr (.cells #[.int .i64 ((F + (i : Int)) % 65536), .bool true, .int .i64 V, .bool false, .bool false] 58)))
    have hbr : b ≤ wr.heap.size := Nat.le_trans hbp (Nat.le_trans (Nat.le_of_lt hpl) hbw)
    replace HB := Aside0.mk (HB.out.alloc hbr (.cells #[.int .i64 ((F + (i : Int)) % 65536), .bool true, .int .i64 V, .bool false, .bool false] 58))
    generalize wr.alloc (.cells #[.int .i64 ((F + (i : Int)) % 65536), .bool true, .int .i64 V, .bool false, .bool false] 58) = wx at *
    have hbx : b ≤ wx.heap.size := Nat.le_trans hbp (Nat.le_of_lt (blk_lt K0.out))
    have kc := blk_cell K0.out 0
    simp only [List.getElem?_toArray, List.getElem?_cons_zero, List.getElem?_cons_succ] at kc
    have x0 := blk_cell X1.out 0
    simp only [List.getElem?_toArray, List.getElem?_cons_zero, List.getElem?_cons_succ] at x0
    have x1 := blk_cell X1.out 1
    simp only [List.getElem?_toArray, List.getElem?_cons_zero, List.getElem?_cons_succ] at x1
    have x2 := blk_cell X1.out 2
    simp only [List.getElem?_toArray, List.getElem?_cons_zero, List.getElem?_cons_succ] at x2
    have x3 := blk_cell X1.out 3
    simp only [List.getElem?_toArray, List.getElem?_cons_zero, List.getElem?_cons_succ] at x3
    have x4 := blk_cell X1.out 4
    simp only [List.getElem?_toArray, List.getElem?_cons_zero, List.getElem?_cons_succ] at x4
    have zp : ∀ o, (wx.alloc o).cell? ⟨p, 0, none⟩ = some vr := fun o => (World.cell?_alloc_past _ _ _ (blk_lt K0.out)).trans kc
    have z0 : ∀ o, (wx.alloc o).cell? ⟨wr.heap.size, 0, none⟩ = some (.int .i64 ((F + (i : Int)) % 65536)) := fun o => (World.cell?_alloc_past _ _ _ (blk_lt X1.out)).trans x0
    have z1 : ∀ o, (wx.alloc o).cell? ⟨wr.heap.size, 1, none⟩ = some (.bool true) := fun o => (World.cell?_alloc_past _ _ _ (blk_lt X1.out)).trans x1
    have z2 : ∀ o, (wx.alloc o).cell? ⟨wr.heap.size, 2, none⟩ = some (.int .i64 V) := fun o => (World.cell?_alloc_past _ _ _ (blk_lt X1.out)).trans x2
    have z3 : ∀ o, (wx.alloc o).cell? ⟨wr.heap.size, 3, none⟩ = some (.bool false) := fun o => (World.cell?_alloc_past _ _ _ (blk_lt X1.out)).trans x3
    have z4 : ∀ o, (wx.alloc o).cell? ⟨wr.heap.size, 4, none⟩ = some (.bool false) := fun o => (World.cell?_alloc_past _ _ _ (blk_lt X1.out)).trans x4
    refine start_ (n := 11) (S := fun w' => w'.cell? ⟨p, 0, none⟩ = some vr ∧ w'.cell? ⟨wr.heap.size, 0, none⟩ = some (.int .i64 ((F + (i : Int)) % 65536)) ∧ w'.cell? ⟨wr.heap.size, 1, none⟩ = some (.bool true) ∧ w'.cell? ⟨wr.heap.size, 2, none⟩ = some (.int .i64 V) ∧ w'.cell? ⟨wr.heap.size, 3, none⟩ = some (.bool false) ∧ w'.cell? ⟨wr.heap.size, 4, none⟩ = some (.bool false)) (ds := [7, 10]) #[false, false, false, false, false, false, false, false, false, false, false] (by kernel_rfl) rfl rfl ⟨kc, x0, x1, x2, x3, x4⟩ (fun hHeld => ?_)
    refine pure_ (i := 0) (N := some 47) (v := ?_) (a' := ?_) #[true, false, false, false, false, false, false, false, false, false, false] rfl rfl (by kernel_rfl) (fun _ _ _ h => h) (Or.inl ⟨by rfl, ?_⟩) ?_ ?_
    rotate_left
    ·intro w'
     go_simp
     with_reducible rfl
    rotate_left
    ·simp only [Act.put, List.setIfInBounds_toArray, List.set_cons_zero, List.set_cons_succ, i64_w, i32_w]
     rfl
    refine pure_ (i := 1) (N := some 48) (v := ?_) (a' := ?_) #[true, true, false, false, false, false, false, false, false, false, false] rfl rfl (by kernel_rfl) (fun _ _ _ h => h) (Or.inl ⟨by rfl, ?_⟩) ?_ ?_
    rotate_left
    ·intro w'
     go_simp
     with_reducible rfl
    rotate_left
    ·simp only [Act.put, List.setIfInBounds_toArray, List.set_cons_zero, List.set_cons_succ, i64_w, i32_w]
     rfl
    refine pure_ (i := 2) (N := some 49) (v := ?_) (a' := ?_) #[true, true, true, false, false, false, false, false, false, false, false] rfl rfl (by kernel_rfl) (fun _ _ _ h => h) (Or.inl ⟨by rfl, ?_⟩) ?_ ?_
    rotate_left
    ·intro w'
     go_simp
     with_reducible rfl
    rotate_left
    ·simp only [Act.put, List.setIfInBounds_toArray, List.set_cons_zero, List.set_cons_succ, i64_w, i32_w]
     rfl
    refine pure_ (i := 3) (N := some 50) (v := ?_) (a' := ?_) #[true, true, true, true, false, false, false, false, false, false, false] rfl rfl (by kernel_rfl) (fun _ _ _ h => h) (Or.inl ⟨by rfl, ?_⟩) ?_ ?_
    rotate_left
    ·intro w'
     go_simp
     with_reducible rfl
    rotate_left
    ·simp only [Act.put, List.setIfInBounds_toArray, List.set_cons_zero, List.set_cons_succ, i64_w, i32_w]
     rfl
    refine take_ (i := 4) (N := some 51) (v := ?_) (a' := ?_) #[true, true, true, true, true, false, false, false, false, false, false] rfl rfl (by kernel_rfl) (fun _ _ _ h => h) (Or.inl ⟨by rfl, ?_⟩) hHeld ?_ ?_
    rotate_left
    ·rintro w' ⟨s0, s1, s2, s3, s4, s5⟩
     go_simp
     with_reducible rfl
    rotate_left
    ·simp only [Act.put, List.setIfInBounds_toArray, List.set_cons_zero, List.set_cons_succ, i64_w, i32_w]
     rfl
    refine take_ (i := 5) (N := some 52) (v := ?_) (a' := ?_) #[true, true, true, true, true, true, false, false, false, false, false] rfl rfl (by kernel_rfl) (fun _ _ _ h => h) (Or.inl ⟨by rfl, ?_⟩) hHeld ?_ ?_
    rotate_left
    ·rintro w' ⟨s0, s1, s2, s3, s4, s5⟩
     go_simp
     with_reducible rfl
    rotate_left
    ·simp only [Act.put, List.setIfInBounds_toArray, List.set_cons_zero, List.set_cons_succ, i64_w, i32_w]
     rfl
    refine one_ (i := 6) (N := some 53) #[true, true, true, true, true, true, true, false, false, false, false] rfl rfl (by kernel_rfl) (by decide) (fun K hK => ?_)
    refine value_ (w1 := ?_) (v := ?_) (by rfl) rfl ?_ ?_
    rotate_left 2
    ·go_simp
     constructor
     ·rfl
     ·rfl
    refine hK.out _ _ ⟨(zp _), (z0 _), (z1 _), (z2 _), (z3 _), (z4 _)⟩ (fun hHeld => ?_)
    clear hK K
    refine norm_ (a' := ?_) ?_ ?_
    rotate_left
    ·show Act.put _ (some 53) _ = _
     simp only [Act.put, List.setIfInBounds_toArray, List.set_cons_zero, List.set_cons_succ, i64_w, i32_w]
     rfl
    refine last_ (i := 7) (N := some 54) #[true, true, true, true, true, true, true, true, false, false, false] rfl rfl (by kernel_rfl) (by decide) (fun K hK => ?_)
    have XR1 := Aside0.mk (RowV.alloc (w := wx.drew) HR.out (.cells #[.int .i64 ((F + (i : Int)) % 65536), .bool true, .int .i64 V, .bool false, .bool false] 58))
    have X01 := Aside0.mk (gb_blk (World.grownBy_alloc wx.drew (.cells #[.int .i64 ((F + (i : Int)) % 65536), .bool true, .int .i64 V, .bool false, .bool false] 58) none) K0.out (fun k hk => by cases hk))
    have X41 := Aside0.mk (gb_blk (World.grownBy_alloc wx.drew (.cells #[.int .i64 ((F + (i : Int)) % 65536), .bool true, .int .i64 V, .bool false, .bool false] 58) none) K4.out (fun k hk => by cases hk))
    have XS1 := Aside0.mk (RowV.alloc (w := wx.drew) HS.out (.cells #[.int .i64 ((F + (i : Int)) % 65536), .bool true, .int .i64 V, .bool false, .bool false] 58))
    have XD1 := Aside0.mk (RowV.alloc (w := wx.drew) HD.out (.cells #[.int .i64 ((F + (i : Int)) % 65536), .bool true, .int .i64 V, .bool false, .bool false] 58))
    have XB1 := Aside0.mk (HB.out.drew.alloc hbx (.cells #[.int .i64 ((F + (i : Int)) % 65536), .bool true, .int .i64 V, .bool false, .bool false] 58))
    have XF1 := Aside0.mk ((Fr.trans (w1 := wx.drew) ⟨HFr.out.heap⟩ (Fr.alloc p wx.drew (.cells #[.int .i64 ((F + (i : Int)) % 65536), .bool true, .int .i64 V, .bool false, .bool false] 58))))
    have HBX : Aside0 (b ≤ (wx.drew.alloc (.cells #[.int .i64 ((F + (i : Int)) % 65536), .bool true, .int .i64 V, .bool false, .bool false] 58)).heap.size) := ⟨Nat.le_trans hbp (Nat.le_of_lt (blk_lt X01.out))⟩
    refine row_append_step (w := (wx.drew.alloc (.cells #[.int .i64 ((F + (i : Int)) % 65536), .bool true, .int .i64 V, .bool false, .bool false] 58))) (.tmp 51) (.tmp 53) 23 rfl 58 Try.t58 (.agg #[.int .i64 0, .bool false, .int .i64 0, .bool false, .bool false]) 5 32 Try.underlying23 (by kernel_rfl) rfl rfl rfl (by decide) (by decide) b vr (R.length + i) (repV (R ++ reps2 F a0 l ds i)) (by rfl) XR1.out ⟨wx.heap.size, 0, none⟩ 1 1 [(.int .i64 ((F + (i : Int)) % 65536)), (.bool true), (.int .i64 V), (.bool false), (.bool false)] (by rfl) rfl (new_news wx.drew _ _) (by simp [Value.oneCell']) (by simp only [maxLen]; omega) (by omega) HBX.out ?_
    intro v1 w6 hR6 hG6 hO6 hF6
    obtain ⟨g6, o6, c6_, rfl, hb6, hn6, hc6, hx6⟩ := hR6.some_ (by omega)
    have Y0 := gb_blkR hG6 XR1.out X01.out (by decide)
    have Y4 := Aside0.mk (gb_blkR hG6 XR1.out X41.out (by decide))
    have YF := Aside0.mk (XF1.out.trans (Fr.grown XR1.out hG6))
    have YS := Aside0.mk ((Fr.grown (p := p) XR1.out hG6).row XS1.out (by decide) HNS2.out)
    have YD := Aside0.mk ((Fr.grown (p := p) XR1.out hG6).row XD1.out (by decide) HND2.out)
    have YB := Aside0.mk (below_base XB1.out hG6 (fun k hk => (XR1.out.lt hk).2.1) HBX.out)
    have u0 := blk_cell Y0 0
    have u0f := blk_frozen Y0 0
    simp only [List.getElem?_toArray, List.getElem?_cons_zero, List.getElem?_cons_succ] at u0
    have HR6 := Aside0.mk hR6
    have HY0 := Aside0.mk Y0
    clear Y0 hx6 hR6 hG6 hO6 hF6
    refine hK.out _ _ ?_
    clear hK K
    refine norm_ (a' := ?_) ?_ ?_
    rotate_left
    ·show Act.put _ (some 54) _ = _
     simp only [Act.put, List.setIfInBounds_toArray, List.set_cons_zero, List.set_cons_succ, i64_w, i32_w]
     rfl
    refine pure_ (i := 8) (N := some 55) (v := ?_) (a' := ?_) #[true, true, true, true, true, true, true, true, true, false, false] rfl rfl (by kernel_rfl) (fun _ _ _ h => h) (Or.inl ⟨by rfl, ?_⟩) ?_ ?_
    rotate_left
    ·intro w'
     go_simp
     with_reducible rfl
    rotate_left
    ·simp only [Act.put, List.setIfInBounds_toArray, List.set_cons_zero, List.set_cons_succ, i64_w, i32_w]
     rfl
    refine pure_ (i := 9) (N := some 56) (v := ?_) (a' := ?_) #[true, true, true, true, true, true, true, true, true, true, false] rfl rfl (by kernel_rfl) (fun _ _ _ h => h) (Or.inl ⟨by rfl, ?_⟩) ?_ ?_
    rotate_left
    ·intro w'
     go_simp
     with_reducible rfl
    rotate_left
    ·simp only [Act.put, List.setIfInBounds_toArray, List.set_cons_zero, List.set_cons_succ, i64_w, i32_w]
     rfl
    refine last_ (i := 10) (N := none) #[true, true, true, true, true, true, true, true, true, true, true] rfl rfl (by kernel_rfl) (by decide) (fun K hK => ?_)
    refine skip_ (w1 := ?_) (by rfl) rfl ?_ ?_
    rotate_left
    ·go_simp
     rfl
    refine hK.out _ _ ?_
    clear hK K
    refine done_ (by kernel_rfl) ?_
    go_wp2_with fail
    have e_ := blk_set HY0.out 0 (.slice (some ⟨g6, o6, none⟩) (R.length + i + 1) c6_)
    simp only [List.setIfInBounds_toArray, List.set_cons_zero, List.set_cons_succ] at e_
    refine ⟨⟨i + 1, .slice (some ⟨g6, o6, none⟩) (R.length + i + 1) c6_, by simp, by omega, by rw [hat.out], by rw [hcnt.out], ⟨e_⟩, ⟨(Below.heap_setCell w6 (⟨p, 0, none⟩ : Addr) _ g4 n4).trans Y4.out⟩, ⟨?_⟩, ⟨YS.out.setCell (p := ⟨p, 0, none⟩) _ HNS2.out⟩, ⟨YD.out.setCell (p := ⟨p, 0, none⟩) _ HND2.out⟩, ⟨YB.out.setCell (p := ⟨p, 0, none⟩) hbp _⟩, ⟨YF.out.trans (Fr.set w6 0 _)⟩⟩, by simp [intOf]; omega⟩
    rw [reps2_succ, ← List.append_assoc, repV_snoc, hrep.out]
    exact HR6.out.setCell (p := ⟨p, 0, none⟩) _ (HR6.out.ne HY0.out (by decide))
   ·have p1 : decide (0 < x) = false := decide_eq_false hx0
    have hrep : rep2 F a0 l ds i = ((F + (i : Int)) % 65536, false, 0, false, false) := by
     unfold rep2
     rw [show l.getD i 0 = x by simp [HX.out], if_neg hx0, p1]
    have hcnt : cntK l (i + 1) = cntK l i := cntK_no HX.out hx0
    have hat : atK a0 ds (cntK l (i + 1)) = atK a0 ds (cntK l i) := by rw [hcnt]
    replace hrep := Aside0.mk hrep
    replace hcnt := Aside0.mk hcnt
    replace hat := Aside0.mk hat
    have hki := cntK_le l i
    clear hx0
    go_wp2_with fail
    refine (cut16 _ _ (by unfold I64; omega)).mono ?_
    rintro e w5 ⟨rfl, hw5⟩
    obtain rfl := hw5.symm
    go_wp2_with fail
    clear c2 ux
    have X1 := Aside0.mk (blk_new wr (.cells #[.int .i64 ((F + (i : Int)) % 65536), .bool false, .int .i64 0, .bool false, .bool false] 58))
    replace K0 := Aside0.mk (gb_blk (World.grownBy_alloc wr (.cells #[.int .i64 ((F + (i : Int)) % 65536), .bool false, .int .i64 0, .bool false, .bool false] 58) none) K0.out (fun k hk => by cases hk))
    replace K4 := Aside0.mk (gb_blk (World.grownBy_alloc wr (.cells #[.int .i64 ((F + (i : Int)) % 65536), .bool false, .int .i64 0, .bool false, .bool false] 58) none) K4.out (fun k hk => by cases hk))
    replace HR := Aside0.mk (HR.out.alloc (.cells #[.int .i64 ((F + (i : Int)) % 65536), .bool false, .int .i64 0, .bool false, .bool false] 58))
    replace HS := Aside0.mk (HS.out.alloc (.cells #[.int .i64 ((F + (i : Int)) % 65536), .bool false, .int .i64 0, .bool false, .bool false] 58))
    replace HD := Aside0.mk (HD.out.alloc (.cells #[.int .i64 ((F + (i : Int)) % 65536), .bool false, .int .i64 0, .bool false, .bool false] 58))
    have hbw := HB.out.size
    replace HFr := Aside0.mk (HFr.out.trans (Fr.alloc p wr (.cells #[.int .i64 ((F + (i : Int)) % 65536), .bool false, .int .i64 0, .bool false, .bool false] 58)))
    have hbr : b ≤ wr.heap.size := Nat.le_trans hbp (Nat.le_trans (Nat.le_of_lt hpl) hbw)
    replace HB := Aside0.mk (HB.out.alloc hbr (.cells #[.int .i64 ((F + (i : Int)) % 65536), .bool false, .int .i64 0, .bool false, .bool false] 58))
    generalize wr.alloc (.cells #[.int .i64 ((F + (i : Int)) % 65536), .bool false, .int .i64 0, .bool false, .bool false] 58) = wx at *
    have hbx : b ≤ wx.heap.size := Nat.le_trans hbp (Nat.le_of_lt (blk_lt K0.out))
    have kc := blk_cell K0.out 0
    simp only [List.getElem?_toArray, List.getElem?_cons_zero, List.getElem?_cons_succ] at kc
    have x0 := blk_cell X1.out 0
    simp only [List.getElem?_toArray, List.getElem?_cons_zero, List.getElem?_cons_succ] at x0
    have x1 := blk_cell X1.out 1
    simp only [List.getElem?_toArray, List.getElem?_cons_zero, List.getElem?_cons_succ] at x1
    have x2 := blk_cell X1.out 2
    simp only [List.getElem?_toArray, List.getElem?_cons_zero, List.getElem?_cons_succ] at x2
    have x3 := blk_cell X1.out 3
    simp only [List.getElem?_toArray, List.getElem?_cons_zero, List.getElem?_cons_succ] at x3
    have x4 := blk_cell X1.out 4
    simp only [List.getElem?_toArray, List.getElem?_cons_zero, List.getElem?_cons_succ] at x4
    have zp : ∀ o, (wx.alloc o).cell? ⟨p, 0, none⟩ = some vr := fun o => (World.cell?_alloc_past _ _ _ (blk_lt K0.out)).trans kc
    have z0 : ∀ o, (wx.alloc o).cell? ⟨wr.heap.size, 0, none⟩ = some (.int .i64 ((F + (i : Int)) % 65536)) := fun o => (World.cell?_alloc_past _ _ _ (blk_lt X1.out)).trans x0
    have z1 : ∀ o, (wx.alloc o).cell? ⟨wr.heap.size, 1, none⟩ = some (.bool false) := fun o => (World.cell?_alloc_past _ _ _ (blk_lt X1.out)).trans x1
    have z2 : ∀ o, (wx.alloc o).cell? ⟨wr.heap.size, 2, none⟩ = some (.int .i64 0) := fun o => (World.cell?_alloc_past _ _ _ (blk_lt X1.out)).trans x2
    have z3 : ∀ o, (wx.alloc o).cell? ⟨wr.heap.size, 3, none⟩ = some (.bool false) := fun o => (World.cell?_alloc_past _ _ _ (blk_lt X1.out)).trans x3
    have z4 : ∀ o, (wx.alloc o).cell? ⟨wr.heap.size, 4, none⟩ = some (.bool false) := fun o => (World.cell?_alloc_past _ _ _ (blk_lt X1.out)).trans x4
    refine start_ (n := 11) (S := fun w' => w'.cell? ⟨p, 0, none⟩ = some vr ∧ w'.cell? ⟨wr.heap.size, 0, none⟩ = some (.int .i64 ((F + (i : Int)) % 65536)) ∧ w'.cell? ⟨wr.heap.size, 1, none⟩ = some (.bool false) ∧ w'.cell? ⟨wr.heap.size, 2, none⟩ = some (.int .i64 0) ∧ w'.cell? ⟨wr.heap.size, 3, none⟩ = some (.bool false) ∧ w'.cell? ⟨wr.heap.size, 4, none⟩ = some (.bool false)) (ds := [7, 10]) #[false, false, false, false, false, false, false, false, false, false, false] (by kernel_rfl) rfl rfl ⟨kc, x0, x1, x2, x3, x4⟩ (fun hHeld => ?_)
    refine pure_ (i := 0) (N := some 47) (v := ?_) (a' := ?_) #[true, false, false, false, false, false, false, false, false, false, false] rfl rfl (by kernel_rfl) (fun _ _ _ h => h) (Or.inl ⟨by rfl, ?_⟩) ?_ ?_
    rotate_left
    ·intro w'
     go_simp
     with_reducible rfl
    rotate_left
    ·simp only [Act.put, List.setIfInBounds_toArray, List.set_cons_zero, List.set_cons_succ, i64_w, i32_w]
     rfl
    refine pure_ (i := 1) (N := some 48) (v := ?_) (a' := ?_) #[true, true, false, false, false, false, false, false, false, false, false] rfl rfl (by kernel_rfl) (fun _ _ _ h => h) (Or.inl ⟨by rfl, ?_⟩) ?_ ?_
    rotate_left
    ·intro w'
     go_simp
     with_reducible rfl
    rotate_left
    ·simp only [Act.put, List.setIfInBounds_toArray, List.set_cons_zero, List.set_cons_succ, i64_w, i32_w]
     rfl
    refine pure_ (i := 2) (N := some 49) (v := ?_) (a' := ?_) #[true, true, true, false, false, false, false, false, false, false, false] rfl rfl (by kernel_rfl) (fun _ _ _ h => h) (Or.inl ⟨by rfl, ?_⟩) ?_ ?_
    rotate_left
    ·intro w'
     go_simp
     with_reducible rfl
    rotate_left
    ·simp only [Act.put, List.setIfInBounds_toArray, List.set_cons_zero, List.set_cons_succ, i64_w, i32_w]
     rfl
    refine pure_ (i := 3) (N := some 50) (v := ?_) (a' := ?_) #[true, true, true, true, false, false, false, false, false, false, false] rfl rfl (by kernel_rfl) (fun _ _ _ h => h) (Or.inl ⟨by rfl, ?_⟩) ?_ ?_
    rotate_left
    ·intro w'
     go_simp
     with_reducible rfl
    rotate_left
    ·simp only [Act.put, List.setIfInBounds_toArray, List.set_cons_zero, List.set_cons_succ, i64_w, i32_w]
     rfl
    refine take_ (i := 4) (N := some 51) (v := ?_) (a' := ?_) #[true, true, true, true, true, false, false, false, false, false, false] rfl rfl (by kernel_rfl) (fun _ _ _ h => h) (Or.inl ⟨by rfl, ?_⟩) hHeld ?_ ?_
    rotate_left
    ·rintro w' ⟨s0, s1, s2, s3, s4, s5⟩
     go_simp
     with_reducible rfl
    rotate_left
    ·simp only [Act.put, List.setIfInBounds_toArray, List.set_cons_zero, List.set_cons_succ, i64_w, i32_w]
     rfl
    refine take_ (i := 5) (N := some 52) (v := ?_) (a' := ?_) #[true, true, true, true, true, true, false, false, false, false, false] rfl rfl (by kernel_rfl) (fun _ _ _ h => h) (Or.inl ⟨by rfl, ?_⟩) hHeld ?_ ?_
    rotate_left
    ·rintro w' ⟨s0, s1, s2, s3, s4, s5⟩
     go_simp
     with_reducible rfl
    rotate_left
    ·simp only [Act.put, List.setIfInBounds_toArray, List.set_cons_zero, List.set_cons_succ, i64_w, i32_w]
     rfl
    refine one_ (i := 6) (N := some 53) #[true, true, true, true, true, true, true, false, false, false, false] rfl rfl (by kernel_rfl) (by decide) (fun K hK => ?_)
    refine value_ (w1 := ?_) (v := ?_) (by rfl) rfl ?_ ?_
    rotate_left 2
    ·go_simp
     constructor
     ·rfl
     ·rfl
    refine hK.out _ _ ⟨(zp _), (z0 _), (z1 _), (z2 _), (z3 _), (z4 _)⟩ (fun hHeld => ?_)
    clear hK K
    refine norm_ (a' := ?_) ?_ ?_
    rotate_left
    ·show Act.put _ (some 53) _ = _
     simp only [Act.put, List.setIfInBounds_toArray, List.set_cons_zero, List.set_cons_succ, i64_w, i32_w]
     rfl
    refine last_ (i := 7) (N := some 54) #[true, true, true, true, true, true, true, true, false, false, false] rfl rfl (by kernel_rfl) (by decide) (fun K hK => ?_)
    have XR1 := Aside0.mk (RowV.alloc (w := wx.drew) HR.out (.cells #[.int .i64 ((F + (i : Int)) % 65536), .bool false, .int .i64 0, .bool false, .bool false] 58))
    have X01 := Aside0.mk (gb_blk (World.grownBy_alloc wx.drew (.cells #[.int .i64 ((F + (i : Int)) % 65536), .bool false, .int .i64 0, .bool false, .bool false] 58) none) K0.out (fun k hk => by cases hk))
    have X41 := Aside0.mk (gb_blk (World.grownBy_alloc wx.drew (.cells #[.int .i64 ((F + (i : Int)) % 65536), .bool false, .int .i64 0, .bool false, .bool false] 58) none) K4.out (fun k hk => by cases hk))
    have XS1 := Aside0.mk (RowV.alloc (w := wx.drew) HS.out (.cells #[.int .i64 ((F + (i : Int)) % 65536), .bool false, .int .i64 0, .bool false, .bool false] 58))
    have XD1 := Aside0.mk (RowV.alloc (w := wx.drew) HD.out (.cells #[.int .i64 ((F + (i : Int)) % 65536), .bool false, .int .i64 0, .bool false, .bool false] 58))
    have XB1 := Aside0.mk (HB.out.drew.alloc hbx (.cells #[.int .i64 ((F + (i : Int)) % 65536), .bool false, .int .i64 0, .bool false, .bool false] 58))
    have XF1 := Aside0.mk ((Fr.trans (w1 := wx.drew) ⟨HFr.out.heap⟩ (Fr.alloc p wx.drew (.cells #[.int .i64 ((F + (i : Int)) % 65536), .bool false, .int .i64 0, .bool false, .bool false] 58))))
    have HBX : Aside0 (b ≤ (wx.drew.alloc (.cells #[.int .i64 ((F + (i : Int)) % 65536), .bool false, .int .i64 0, .bool false, .bool false] 58)).heap.size) := ⟨Nat.le_trans hbp (Nat.le_of_lt (blk_lt X01.out))⟩
    refine row_append_step (w := (wx.drew.alloc (.cells #[.int .i64 ((F + (i : Int)) % 65536), .bool false, .int .i64 0, .bool false, .bool false] 58))) (.tmp 51) (.tmp 53) 23 rfl 58 Try.t58 (.agg #[.int .i64 0, .bool false, .int .i64 0, .bool false, .bool false]) 5 32 Try.underlying23 (by kernel_rfl) rfl rfl rfl (by decide) (by decide) b vr (R.length + i) (repV (R ++ reps2 F a0 l ds i)) (by rfl) XR1.out ⟨wx.heap.size, 0, none⟩ 1 1 [(.int .i64 ((F + (i : Int)) % 65536)), (.bool false), (.int .i64 0), (.bool false), (.bool false)] (by rfl) rfl (new_news wx.drew _ _) (by simp [Value.oneCell']) (by simp only [maxLen]; omega) (by omega) HBX.out ?_
    intro v1 w6 hR6 hG6 hO6 hF6
    obtain ⟨g6, o6, c6_, rfl, hb6, hn6, hc6, hx6⟩ := hR6.some_ (by omega)
    have Y0 := gb_blkR hG6 XR1.out X01.out (by decide)
    have Y4 := Aside0.mk (gb_blkR hG6 XR1.out X41.out (by decide))
    have YF := Aside0.mk (XF1.out.trans (Fr.grown XR1.out hG6))
    have YS := Aside0.mk ((Fr.grown (p := p) XR1.out hG6).row XS1.out (by decide) HNS2.out)
    have YD := Aside0.mk ((Fr.grown (p := p) XR1.out hG6).row XD1.out (by decide) HND2.out)
    have YB := Aside0.mk (below_base XB1.out hG6 (fun k hk => (XR1.out.lt hk).2.1) HBX.out)
    have u0 := blk_cell Y0 0
    have u0f := blk_frozen Y0 0
    simp only [List.getElem?_toArray, List.getElem?_cons_zero, List.getElem?_cons_succ] at u0
    have HR6 := Aside0.mk hR6
    have HY0 := Aside0.mk Y0
    clear Y0 hx6 hR6 hG6 hO6 hF6
    refine hK.out _ _ ?_
    clear hK K
    refine norm_ (a' := ?_) ?_ ?_
    rotate_left
    ·show Act.put _ (some 54) _ = _
     simp only [Act.put, List.setIfInBounds_toArray, List.set_cons_zero, List.set_cons_succ, i64_w, i32_w]
     rfl
    refine pure_ (i := 8) (N := some 55) (v := ?_) (a' := ?_) #[true, true, true, true, true, true, true, true, true, false, false] rfl rfl (by kernel_rfl) (fun _ _ _ h => h) (Or.inl ⟨by rfl, ?_⟩) ?_ ?_
    rotate_left
    ·intro w'
     go_simp
     with_reducible rfl
    rotate_left
    ·simp only [Act.put, List.setIfInBounds_toArray, List.set_cons_zero, List.set_cons_succ, i64_w, i32_w]
     rfl
    refine pure_ (i := 9) (N := some 56) (v := ?_) (a' := ?_) #[true, true, true, true, true, true, true, true, true, true, false] rfl rfl (by kernel_rfl) (fun _ _ _ h => h) (Or.inl ⟨by rfl, ?_⟩) ?_ ?_
    rotate_left
    ·intro w'
     go_simp
     with_reducible rfl
    rotate_left
    ·simp only [Act.put, List.setIfInBounds_toArray, List.set_cons_zero, List.set_cons_succ, i64_w, i32_w]
     rfl
    refine last_ (i := 10) (N := none) #[true, true, true, true, true, true, true, true, true, true, true] rfl rfl (by kernel_rfl) (by decide) (fun K hK => ?_)
    refine skip_ (w1 := ?_) (by rfl) rfl ?_ ?_
    rotate_left
    ·go_simp
     rfl
    refine hK.out _ _ ?_
    clear hK K
    refine done_ (by kernel_rfl) ?_
    go_wp2_with fail
    have e_ := blk_set HY0.out 0 (.slice (some ⟨g6, o6, none⟩) (R.length + i + 1) c6_)
    simp only [List.setIfInBounds_toArray, List.set_cons_zero, List.set_cons_succ] at e_
    refine ⟨⟨i + 1, .slice (some ⟨g6, o6, none⟩) (R.length + i + 1) c6_, by simp, by omega, by rw [hat.out], by rw [hcnt.out], ⟨e_⟩, ⟨(Below.heap_setCell w6 (⟨p, 0, none⟩ : Addr) _ g4 n4).trans Y4.out⟩, ⟨?_⟩, ⟨YS.out.setCell (p := ⟨p, 0, none⟩) _ HNS2.out⟩, ⟨YD.out.setCell (p := ⟨p, 0, none⟩) _ HND2.out⟩, ⟨YB.out.setCell (p := ⟨p, 0, none⟩) hbp _⟩, ⟨YF.out.trans (Fr.set w6 0 _)⟩⟩, by simp [intOf]; omega⟩
    rw [reps2_succ, ← List.append_assoc, repV_snoc, hrep.out]
    exact HR6.out.setCell (p := ⟨p, 0, none⟩) _ (HR6.out.ne HY0.out (by decide))
  ·have q4 : decide ((i : Int) < (l.length : Int)) = false := decide_eq_false (by omega)
   have hil : i = l.length := by omega
   rw [hil] at HR
   clear hil
   go_wp2_with fail
   (try simp only [Exit.inBlock, Exit.then])
   refine bodyPost_ret (results_none rfl _ _ _) rfl ?_
   exact ⟨rfl, vr, K0.out, by rw [List.length_append, reps2_length]; exact HR.out, HB.out, HFr.out⟩
end Go.Proofs.Ytgakmnholegbgaa.B
end
