/-
  The bit writers and the bit readers of the program and of the reference: what each call does, as lists of bits tell it.
-/
import Derived.Test.YteegleldmnokkaaProg
import Derived.Below
import Derived.Deep.Draws
import Derived.Deep.AppendLies
import Derived.Maps.AppendAt
import Derived.OwnWalk
import Derived.Laws.BytesArg
import Derived.Laws.MakeOwn
import Derived.Laws.OwnMore
import Derived.Deep.OwnRows
import Derived.Tactics
import Derived.Lib.ConvBytes
import Derived.Laws.Slices
import Derived.WalkKit
import Derived.KernelRfl
import Derived.RowKit3
import Derived.Deep.LoopGhost
import Derived.Deep.QuietTactic
import Derived.BigQuiet
import Derived.WideLaws
import Derived.Deep.DeepCutAuto
import Derived.Deep.CutBlock
import Derived.Deep.RegionHeld3
import Derived.Laws.Rows
import Derived.Lib.AppendStr
import Derived.ArgAppend
import Derived.Laws.IdiomCopy
import Derived.OrdersHeld
import Derived.Laws.BitsLemmas
import Derived.RowKit
import Derived.Test.YteegleldmnokkaaWWords
import Derived.Test.YteegleldmnokkaaWLast
import Derived.Test.YteegleldmnokkaaWTab
import Derived.Test.YteegleldmnokkaaWFour
import Derived.Test.YteegleldmnokkaaWQPut
import Derived.Test.YteegleldmnokkaaWApart
import Derived.Test.YteegleldmnokkaaWArr
import Derived.Test.YteegleldmnokkaaWZeros
import Derived.Test.YteegleldmnokkaaWFoot
import Derived.Test.YteegleldmnokkaaWKept
import Derived.Test.YteegleldmnokkaaWShare
import Derived.Test.YteegleldmnokkaaWN
import Derived.Test.YteegleldmnokkaaWFootNe
import Derived.Test.YteegleldmnokkaaWAt
import Derived.Test.YteegleldmnokkaaWEqStruct
import Derived.Test.YteegleldmnokkaaWRepsOne
import Derived.Test.YteegleldmnokkaaWInv
import Derived.Test.YteegleldmnokkaaWInvWords
import Derived.Test.YteegleldmnokkaaWGuard
import Derived.Test.YteegleldmnokkaaWNEv
import Derived.Test.YteegleldmnokkaaWMore

import Derived.BigRegion
import Derived.WalkMore
import Derived.ScopeJumps
import Derived.Test.YteegleldmnokkaaBw
namespace Go.Proofs.Yteegleldmnokkaa.B
open Go.RowKit Go.Proofs.YteegleldmnokkaaW.PrintWords Go.Proofs.YteegleldmnokkaaW.PrintLast Go.Proofs.YteegleldmnokkaaW.PrintMore
set_option linter.unusedVariables false
set_option linter.unusedSimpArgs false

/-- Block p is a writer (its type T, its bytes' element type E) that holds the bits l. -/
def WrIs (w : World) (p T E : Nat) (l : List Bool) : Prop := ∃ v, w.heap[p]? = some (.cells #[v, .int .i64 (l.length : Int)] T (0, 0)) ∧ w.ownsRow (p + 1) E 1 v (packI l).length (nums .u8 (packI l))

theorem info5 : (Try.prog.info? 5).map (fun i => (i.zero, i.size, i.bytes)) = some (some (.int .u8 0), 1, 1) := by kernel_rfl

theorem or_bits (x y : Nat) (hx : x < 256) (hy : y < 256) : bits .or .u8 (x : Int) (y : Int) = ((x ||| y : Nat) : Int) := by
  have e : ∀ z : Nat, z < 256 → (BitVec.ofInt 8 (z : Int)).toNat = z := fun z hz => by rw [BitVec.ofInt_natCast, BitVec.toNat_ofNat]; exact Nat.mod_eq_of_lt (by omega)
  have hor : x ||| y < 2 ^ 8 := Nat.or_lt_two_pow (by omega) (by omega)
  show IntKind.u8.wrap ((BitVec.ofInt 8 (x : Int) ||| BitVec.ofInt 8 (y : Int)).toNat : Int) = _
  rw [BitVec.toNat_or, e x hx, e y hy, IntKind.wrap_u8]
  omega

theorem shl_small_bit (b : Bool) (r : Nat) (hr : r < 8) : b.toNat * 2 ^ r < 256 := by
  have h1 : b.toNat ≤ 1 := Bool.toNat_le b
  have h2 : 2 ^ r ≤ 2 ^ 7 := Nat.pow_le_pow_right (by omega) (by omega)
  calc b.toNat * 2 ^ r ≤ 1 * 2 ^ r := Nat.mul_le_mul_right _ h1
    _ < 256 := by omega

theorem packI_set (l : List Nat) (i z : Nat) : (l.set i z).map (fun x : Nat => (x : Int)) = (l.map fun x : Nat => (x : Int)).set i (z : Int) := by rw [List.map_set]
theorem packI_old (l : List Bool) (b : Bool) (h : ¬ l.length % 8 = 0) : packI (l ++ [b]) = (packI l).set (l.length / 8) ((byteAt l (l.length / 8) ||| (b.toNat * 2 ^ (7 - l.length % 8)) : Nat) : Int) := by
  rw [packI, pack_snoc_old l b h, packI_set]; rfl
theorem packI_new (l : List Bool) (b : Bool) (h : l.length % 8 = 0) : packI (l ++ [b]) = (packI l ++ [0]).set (l.length / 8) ((byteAt l (l.length / 8) ||| (b.toNat * 2 ^ (7 - l.length % 8)) : Nat) : Int) := by
  rw [packI, pack_snoc_new l b h, packI_set]; simp [packI]

/-- The writer's block and row behind one bit more. -/
theorem wr_end {w : World} {p T E g cap m : Nat} {l : List Bool} {b : Bool} {xs : List Int} {z : Nat} (HO : w.ownsRow (p + 1) E 1 (.slice (some ⟨g, 0, none⟩) m cap) m (nums .u8 xs))
    (hp : w.heap[p]? = some (.cells #[.slice (some ⟨g, 0, none⟩) m cap, .int .i64 (l.length : Int)] T (0, 0))) (hm : xs.length = m) (hz : packI (l ++ [b]) = xs.set (l.length / 8) (z : Int)) :
    WrIs ((w.setCell ⟨g, l.length / 8, none⟩ (.int .u8 (z : Int))).setCell ⟨p, 1, none⟩ (.int .i64 ((l.length : Int) + 1))).drew p T E (l ++ [b]) ∧
      Below p w ((w.setCell ⟨g, l.length / 8, none⟩ (.int .u8 (z : Int))).setCell ⟨p, 1, none⟩ (.int .i64 ((l.length : Int) + 1))).drew := by
  have hgb : p + 1 ≤ g := own_base HO g rfl
  have hst := own_store HO ((l.length / 8 : Nat) : Int) (z : Int)
  simp only [Int.toNat_natCast] at hst
  refine ⟨⟨.slice (some ⟨g, 0, none⟩) m cap, ?_, ?_⟩, (((Below.refl p w).setCell (p := ⟨g, l.length / 8, none⟩) (show p ≤ g by omega) _).setCell (p := ⟨p, 1, none⟩) (Nat.le_refl p) _).drew⟩
  · have h1 := blk_set (blk_far hp (p := ⟨g, l.length / 8, none⟩) (by show p ≠ g; omega) (.int .u8 (z : Int))) 1 (.int .i64 ((l.length : Int) + 1))
    refine (show _ = _ from h1).trans ?_
    simp
  · have h2 := own_setCell hst.1 (p := ⟨p, 1, none⟩) (by simp [Value.ownBlock]; omega) (.int .i64 ((l.length : Int) + 1))
    rw [hz, List.length_set, hm]
    exact h2

theorem mod_bit (y r : Nat) (h : y * 2 ^ r < 256) : ((y : Int) * 2 ^ r % 256) = ((y * 2 ^ r : Nat) : Int) := by
  have e : (y : Int) * 2 ^ r = ((y * 2 ^ r : Nat) : Int) := by rw [Int.natCast_mul, Int.natCast_pow]; rfl
  rw [e]
  omega

set_option maxHeartbeats 1000000 in
theorem one_old (w : World) (p : Nat) (l : List Bool) (b : Bool) (h : WrIs w p 62 5 l) (hn : l.length < 524288) (h8 : ¬ (l.length % 8 = 0)) :
    Calls Try.prog 24 #[.pointer (some ⟨p, 0, none⟩), .int .u32 (b.toNat : Int)] w fun e w' => e = .returned (.tuple #[]) ∧ WrIs w' p 62 5 (l ++ [b]) ∧ Below p w w' := by
  obtain ⟨v, hp, HO⟩ := h
  have hlen : (packI l).length = (l.length + 7) / 8 := packI_length l
  obtain ⟨g, cap, rfl, hgb, hgl⟩ := HO.form (by omega)
  have hat := own_at HO ((l.length / 8 : Nat) : Int) (by omega) (by omega)
  rw [rd_packI l _ (by omega)] at hat
  simp only [Int.toNat_natCast] at hat
  obtain ⟨hx, hgf⟩ := hat
  have h0 := blk_cell hp 0
  have h1 := blk_cell hp 1
  have hf0 := blk_frozen hp 0
  have hf1 := blk_frozen hp 1
  simp only [List.getElem?_toArray, List.getElem?_cons_zero, List.getElem?_cons_succ] at h0 h1
  have hpl := blk_lt hp
  have hbd := byteAt_lt l (l.length / 8)
  have hsm := shl_small_bit b (7 - l.length % 8) (by omega)
  have hend := wr_end HO hp rfl (packI_old l b h8)
  have hor := or_bits _ _ hbd hsm
  have hy : b.toNat < 2 := Bool.toNat_lt b
  generalize l.length = n at *
  generalize (packI l).length = m at *
  generalize byteAt l (n / 8) = x at *
  generalize b.toNat = y at *
  have H3 := Aside0.mk hend
  have H8 := Aside0.mk hor
  have hnb : n / 8 < m := by omega
  have hne : g ≠ p := by omega
  clear hor hlen hend HO hp
  have h8' : ((n : Int) % 8 == 0) = false := by simp; omega
  go_enter Try.func24, Try.ntmps24
  go_wp2
  go_region
  all_goals go_wp2
  all_goals go_end0
  all_goals
    refine ⟨rfl, ?_⟩
    have hend := H3.out
    rw [← H8.out] at hend
    rw [mod_bit y _ hsm]
    exact hend

set_option maxHeartbeats 1000000 in
theorem one_new (w : World) (p : Nat) (l : List Bool) (b : Bool) (h : WrIs w p 62 5 l) (hn : l.length < 524288) (h8 : l.length % 8 = 0) :
    Calls Try.prog 24 #[.pointer (some ⟨p, 0, none⟩), .int .u32 (b.toNat : Int)] w fun e w' => e = .returned (.tuple #[]) ∧ WrIs w' p 62 5 (l ++ [b]) ∧ Below p w w' := by
  obtain ⟨v, hp, HO⟩ := h
  have hlen : (packI l).length = (l.length + 7) / 8 := packI_length l
  have h0 := blk_cell hp 0
  have h1 := blk_cell hp 1
  have hf0 := blk_frozen hp 0
  have hf1 := blk_frozen hp 1
  simp only [List.getElem?_toArray, List.getElem?_cons_zero, List.getElem?_cons_succ] at h0 h1
  have hpl := blk_lt hp
  have hbd := byteAt_lt l (l.length / 8)
  have hbz := byteAt_zero l (l.length / 8) (by omega)
  have hsm := shl_small_bit b (7 - l.length % 8) (by omega)
  have hor := or_bits _ _ hbd hsm
  have hpk := packI_new l b h8
  have hy : b.toNat < 2 := Bool.toNat_lt b
  have hxs : rd (packI l ++ [0]) ((l.length / 8 : Nat) : Int) = 0 := by
    rw [show l.length / 8 = (packI l).length by omega]; simp [rd]
  have HP := Aside0.mk hp
  have HX := Aside0.mk hxs
  have HK := Aside0.mk hpk
  have HL := Aside0.mk hlen
  have HR := Aside0.mk hor
  have HZ := Aside0.mk hbz
  clear hp hxs hpk hlen hor hbz
  have h8' : ((l.length : Int) % 8 == 0) = true := by simp; omega
  have HU := Try.underlying41
  go_enter Try.func24, Try.ntmps24
  go_wp2_with (at_builtin; refine print_append_num (w0 := w) (p + 1) rfl (.tmp 14) (.tmp 15) 41 5 .u8 1 rfl HU info5 (by omega) v (packI l) 0 rfl rfl HO (Below.refl _ _) (by omega) (by have := HL.out; omega) ?_; intro v1 w1 HO1 HB1 HG1 HA1; obtain ⟨g, cap, rfl, hgb, hgl⟩ := HO1.form (by simp); have hp1 := blk_grown HP.out HG1 (fun e => by have := own_base HO p e.symm; omega); have hpl1 := blk_lt hp1; have k0 := blk_cell hp1 0; have k1 := blk_cell hp1 1; have kf0 := blk_frozen hp1 0; have kf1 := blk_frozen hp1 1; simp only [List.getElem?_toArray, List.getElem?_cons_zero, List.getElem?_cons_succ] at k0 k1; have hat := own_at HO1 ((l.length / 8 : Nat) : Int) (by omega) ((by have := HL.out; simp only [List.length_append, List.length_cons, List.length_nil]; omega)); rw [HX.out] at hat; simp only [Int.toNat_natCast] at hat; obtain ⟨hx, hgf⟩ := hat; have HP1 := Aside0.mk hp1; have HO2 := Aside0.mk HO1; clear hp1 HO1; have hne : g ≠ p := (by omega); have hnb : l.length / 8 < (packI l).length + 1 := (by have := HL.out; omega))
  go_region
  all_goals go_wp2
  all_goals go_end0
  all_goals
    have HO3 := own_setCell HO2.out (p := ⟨p, 0, none⟩) (by simp [Value.ownBlock]; omega) (.slice (some ⟨g, 0, none⟩) (packI l ++ [0]).length cap)
    have HP3 := blk_set HP1.out 0 (.slice (some ⟨g, 0, none⟩) (packI l ++ [0]).length cap)
    have hend := wr_end HO3 (by simpa using HP3) rfl HK.out
    refine ⟨rfl, ?_⟩
    rw [← HR.out, HZ.out] at hend
    have e : ((b.toNat * 2 ^ (7 - l.length % 8) : Nat) : Int) = (b.toNat : Int) * 128 % 4294967296 := by rw [h8]; omega
    rw [e] at hend
    simp only [List.length_append, List.length_singleton] at hend
    exact ⟨hend.1, ((HB1.mono (by omega)).setCell (p := ⟨p, 0, none⟩) (Nat.le_refl p) _).trans hend.2⟩

theorem one_any (w : World) (p : Nat) (l : List Bool) (b : Bool) (h : WrIs w p 62 5 l) (hn : l.length < 524288) :
    Calls Try.prog 24 #[.pointer (some ⟨p, 0, none⟩), .int .u32 (b.toNat : Int)] w fun e w' => e = .returned (.tuple #[]) ∧ WrIs w' p 62 5 (l ++ [b]) ∧ Below p w w' := by
  by_cases h8 : l.length % 8 = 0
  · exact one_new w p l b h hn h8
  · exact one_old w p l b h hn h8

theorem and_one_u32 (v j : Nat) (hv : v < 4294967296) : bits .and .u32 ((v : Int) / 2 ^ j) 1 = ((v.testBit j).toNat : Int) := by
  have e : ((v : Int) / 2 ^ j) = ((v / 2 ^ j : Nat) : Int) := by rw [Int.natCast_ediv, Int.natCast_pow]; rfl
  have hlt : v / 2 ^ j < 4294967296 := Nat.lt_of_le_of_lt (Nat.div_le_self _ _) hv
  have e32 : ∀ z : Nat, z < 4294967296 → (BitVec.ofInt 32 (z : Int)).toNat = z := fun z hz => by rw [BitVec.ofInt_natCast, BitVec.toNat_ofNat]; exact Nat.mod_eq_of_lt (by omega)
  rw [e]
  show IntKind.u32.wrap ((BitVec.ofInt 32 ((v / 2 ^ j : Nat) : Int) &&& BitVec.ofInt 32 ((1 : Nat) : Int)).toNat : Int) = _
  rw [BitVec.toNat_and, e32 _ hlt, e32 1 (by omega), Nat.and_one_is_mod, IntKind.wrap_u32, Nat.testBit_eq_decide_div_mod_eq]
  rcases Nat.mod_two_eq_zero_or_one (v / 2 ^ j) with h | h <;> simp [h]

def PutJ (w : World) (p T E : Nat) (l : List Bool) (v n : Nat) (a' : Act) (w' : World) : Prop :=
  ∃ (k : Int) (l' : List Bool) (q6 q7 q8 q9 q10 q11 q12 q13 q14 q15 q16 q17 q18 q19 q20 q21 q22 q23 q24 q25 q26 q27 q28 q29 q30 q31 q32 q33 q34 : Value), a' = { tmps := #[.pointer (some ⟨p, 0, none⟩), .int .u32 (v : Int), .int .i64 k, undef, undef, undef, q6, q7, q8, q9, q10, q11, q12, q13, q14, q15, q16, q17, q18, q19, q20, q21, q22, q23, q24, q25, q26, q27, q28, q29, q30, q31, q32, q33, q34], defers := [] } ∧ (0 ≤ k ∧ k ≤ 32) ∧ l' ++ toBits k.toNat v = l ++ toBits n v ∧ WrIs w' p T E l' ∧ Below p w w'

set_option maxHeartbeats 1000000 in
theorem put_any (w : World) (p : Nat) (l : List Bool) (v n : Nat) (h : WrIs w p 62 5 l) (hv : v < 4294967296) (hn : n ≤ 32) (hl : l.length + n ≤ 524288) :
    Calls Try.prog 17 #[.pointer (some ⟨p, 0, none⟩), .int .u32 (v : Int), .int .i64 (n : Int)] w fun e w' => e = .returned (.tuple #[]) ∧ WrIs w' p 62 5 (l ++ toBits n v) ∧ Below p w w' := by
  have h' := h
  obtain ⟨vv, hp, HO⟩ := h'
  have h0 := blk_cell hp 0
  have h1 := blk_cell hp 1
  simp only [List.getElem?_toArray, List.getElem?_cons_zero, List.getElem?_cons_succ] at h0 h1
  clear hp HO
  obtain ⟨K, hK⟩ : ∃ K : Int, (n : Int) = K := ⟨_, rfl⟩
  have hK0 : 0 ≤ K := by omega
  have hK1 : K ≤ 32 := by omega
  have hK2 : (l.length : Int) + K ≤ 524288 := by omega
  have HK := Aside0.mk hK
  rw [hK]
  clear hK
  go_enter Try.func17, Try.ntmps17
  go_wp2
  refine wp_scope_jumps 0 (PutJ w p 62 5 l v n) (fun a' _ => (intOf (a'.tmps.getD 2 undef)).toNat) rfl ?_ ?_
  · go_wp2
    go_step3
    go_wp2_with fail
    · have hpos : 0 < K := by assumption
      rw [and_one_u32 v _ hv]
      refine (one_any _ _ _ _ h (by omega)).mono ?_
      rintro e w1 ⟨rfl, hW1, hB1⟩
      go_wp2
      go_step3
      refine ⟨rfl, K - 1, _, _, _, _, _, _, _, _, _, _, _, _, _, _, _, _, _, _, _, _, _, _, _, _, _, _, _, _, _, _, rfl, ⟨by omega, by omega⟩, ?_, hW1, hB1⟩
      rw [show n = (K - 1).toNat + 1 by have := HK.out; omega]
      simp [toBits]
    · have hneg : K ≤ 0 := by assumption
      simp only [Exit.jump]
      go_end0
      refine ⟨rfl, ?_, Below.refl _ _⟩
      rw [show n = 0 by have := HK.out; omega]
      simpa [toBits] using h
  · rintro a' w' ⟨k, l', q6, q7, q8, q9, q10, q11, q12, q13, q14, q15, q16, q17, q18, q19, q20, q21, q22, q23, q24, q25, q26, q27, q28, q29, q30, q31, q32, q33, q34, rfl, ⟨hk0, hk1⟩, he, hW, hB⟩
    have hlen : l'.length + k.toNat = l.length + n := by have := congrArg List.length he; simpa [toBits_length] using this
    have HE := Aside0.mk he
    have HL := Aside0.mk hlen
    clear he hlen
    go_wp2_with fail
    · have hpos : 0 < k := by assumption
      rw [and_one_u32 v _ hv]
      refine (one_any _ _ _ _ hW (by have := HL.out; omega)).mono ?_
      rintro e w1 ⟨rfl, hW1, hB1⟩
      go_wp2
      go_step3
      refine ⟨rfl, ⟨k - 1, _, _, _, _, _, _, _, _, _, _, _, _, _, _, _, _, _, _, _, _, _, _, _, _, _, _, _, _, _, _, rfl, ⟨by omega, by omega⟩, ?_, hW1, hB.trans hB1⟩, ?_⟩
      · rw [← HE.out, show k.toNat = (k - 1).toNat + 1 by omega]
        simp [toBits]
      · simp [intOf]
        omega
    · have hneg : k ≤ 0 := by assumption
      simp only [Exit.jump]
      go_end0
      refine ⟨rfl, ?_, hB⟩
      rw [← HE.out, show k.toNat = 0 by omega]
      simpa [toBits] using hW


theorem write_any (w : World) : Calls Try.prog 16 #[] w fun e w' => e = .returned (.pointer (some ⟨w.heap.size, 0, none⟩)) ∧ WrIs w' w.heap.size 62 5 [] ∧ Below w.heap.size w w' := by
  go_enter Try.func16, Try.ntmps16
  go_wp2
  go_ret
  exact ⟨rfl, ⟨_, blk_new _ _, own_nil _ _ _ _⟩, (Below.refl _ _).alloc (Nat.le_refl _) _⟩
theorem text_any (w : World) (p : Nat) (l : List Bool) (h : WrIs w p 62 5 l) :
    Calls Try.prog 19 #[.pointer (some ⟨p, 0, none⟩)] w fun e w' => e = .returned (.string (strOfNums (packI l))) ∧ w' = w := by
  obtain ⟨v, hp, HO⟩ := h
  have h0 := blk_cell hp 0
  simp only [List.getElem?_toArray, List.getElem?_cons_zero] at h0
  have hc := own_string (P := Try.prog) (src := 41) (dst := 9) Try.underlying41 Try.underlying5 Try.underlying9 HO
  clear hp HO
  go_enter Try.func19, Try.ntmps19
  go_wp2
  go_ret
  exact ⟨rfl, rfl⟩
/-- Block p is a reader of the text s. -/
def RdIs (w : World) (p T : Nat) (s : ByteArray) (at_ : Int) (bad : Bool) : Prop := w.heap[p]? = some (.cells #[.string s, .int .i64 at_, .bool bad] T (0, 0))
theorem only_drewN {a w : World} {row : Option Nat} (h : a.grownBy w row) (n : Nat) : a.grownBy (w.drewN n) row := ⟨h.os, h.tape, h.output, h.size, h.block⟩
theorem only_drew {a w : World} {row : Option Nat} (h : a.grownBy w row) : a.grownBy w.drew row := ⟨h.os, h.tape, h.output, h.size, h.block⟩
theorem only_setCell {a w : World} {g : Nat} (h : a.grownBy w (some g)) {p : Addr} (hp : p.block = g) (u : Value) : a.grownBy (w.setCell p u) (some g) :=
  ⟨h.os, h.tape, h.output, by simpa [World.setCell] using h.size, fun i hi hne => (Below.heap_setCell w p u i (by rintro rfl; exact hne (by rw [hp]))).trans (h.block i hi hne)⟩
theorem only_trans {a b c : World} {row : Option Nat} (h : a.grownBy b row) (k : b.grownBy c row) : a.grownBy c row :=
  ⟨k.os.trans h.os, k.tape.trans h.tape, k.output.trans h.output, Nat.le_trans h.size k.size, fun i hi hne => (k.block i (Nat.lt_of_lt_of_le hi h.size) hne).trans (h.block i hi hne)⟩

theorem wp_scope_goto {P : Program} {a : Act} {w : World} {Q : Exit → Act → World → Prop} {c rest : Code} (l : Nat) (J : Act → World → Prop) (μ : Act → World → Nat) (hf : findLabel c l = some (.seq .skip rest))
    (pass : ∀ a w, J a w → rest.wp P (Exit.jump l (fun a' w' => J a' w' ∧ μ a' w' < μ a w) Q) a w)
    (first : Aside0 (∀ a w, J a w → rest.wp P (Exit.jump l J Q) a w) → c.wp P (Exit.jump l J Q) a w) : (Code.scope c).wp P Q a w :=
  wp_scope_jumps l J μ hf (first ⟨fun a w h => Code.wp_mono (fun e a' w' q => by cases e <;> first | exact q | exact ⟨q.1, q.2.1⟩) (pass a w h)⟩) (fun a w h => wp_seq (wp_skip (pass a w h)))

def GetJ (w : World) (p T : Nat) (s : ByteArray) (a n : Nat) (a' : Act) (w' : World) : Prop :=
  ∃ (k : Nat) (q7 q8 q9 q10 q11 q12 q13 q14 q15 q16 q17 q18 q19 q20 q21 q22 q23 q24 q25 q26 q27 q28 q29 q30 q31 q32 q33 q34 q35 q36 q37 q38 q39 q40 q41 q42 q43 q44 q45 q46 q47 q48 q49 q50 q51 q52 q53 q54 q55 q56 q57 q58 q59 q60 q61 q62 q63 q64 q65 q66 q67 q68 q69 q70 q71 q72 q73 q74 q75 q76 q77 q78 q79 q80 : Value), a' = { tmps := #[.pointer (some ⟨p, 0, none⟩), .int .i64 (n : Int), undef, undef, .int .u32 0, .int .u32 (rdBits s a k : Int), .int .i64 ((a : Int) + (n : Int)), q7, q8, q9, q10, q11, q12, q13, q14, q15, q16, q17, q18, q19, q20, q21, q22, q23, q24, q25, q26, q27, q28, q29, q30, q31, q32, q33, q34, q35, q36, q37, q38, q39, q40, q41, q42, q43, q44, q45, q46, q47, q48, q49, q50, q51, q52, q53, q54, q55, q56, q57, q58, q59, q60, q61, q62, q63, q64, q65, q66, q67, q68, q69, q70, q71, q72, q73, q74, q75, q76, q77, q78, q79, q80], defers := [] } ∧ k ≤ n ∧ (∃ c : Nat, c = a + k ∧ RdIs w' p T s (c : Int) false) ∧ w.grownBy w' (some p)

theorem get_bit (s : ByteArray) (a k : Nat) (v : Nat) (hv : v < 2147483648) : bits .or .u32 ((v : Int) * 2) (bits .and .u8 (bt s (((a + k : Nat) : Int) / 8) / 2 ^ (7 - (a + k) % 8)) 1 % 4294967296) = ((2 * v + (bitN s (a + k)).toNat : Nat) : Int) := by
  have hb := Bool.toNat_lt (bitN s (a + k))
  rw [show (((a + k : Nat) : Int) / 8) = (((a + k) / 8 : Nat) : Int) from by omega, byteN_bt, and_one_u8 _ _ (byteN_lt s _)]
  show bits .or .u32 ((v : Int) * 2) (((bitN s (a + k)).toNat : Int) % 4294967296) = _
  rw [show ((v : Int) * 2) = ((2 * v : Nat) : Int) by omega, show (((bitN s (a + k)).toNat : Int) % 4294967296) = ((bitN s (a + k)).toNat : Int) by omega]
  exact or_even_u32 v _ hv

set_option maxHeartbeats 2000000 in
theorem get_good (w : World) (p : Nat) (s : ByteArray) (a n : Nat) (h : RdIs w p 71 s (a : Int) false) (hs : s.size ≤ 1000000000000) (ha : a ≤ 8 * s.size) (hn : n ≤ 32) (hl : a + n ≤ 8 * s.size) :
    Calls Try.prog 27 #[.pointer (some ⟨p, 0, none⟩), .int .i64 (n : Int)] w fun e w' => e = .returned (.int .u32 (rdBits s a n : Int)) ∧ RdIs w' p 71 s ((a : Int) + (n : Int)) false ∧ w.grownBy w' (some p) := by
  have h0 := blk_cell h 0
  have h1 := blk_cell h 1
  have h2 := blk_cell h 2
  simp only [List.getElem?_toArray, List.getElem?_cons_zero, List.getElem?_cons_succ] at h0 h1 h2
  have H := Aside0.mk h
  clear h
  have hd0 : decide ((n : Int) < 0) = false := by simp
  have hd1 : decide (32 < (n : Int)) = false := by simp; omega
  have hd2 : decide (8 * (s.size : Int) - (a : Int) < (n : Int)) = false := by simp; omega
  go_enter Try.func27, Try.ntmps27
  go_wp2
  refine wp_scope_goto 0 (GetJ w p 71 s a n) (fun _ w' => ((a : Int) + (n : Int) - intOf ((w'.cell? ⟨p, 1, none⟩).getD undef)).toNat) rfl ?_ ?_
  · rintro a' w' ⟨k, q7, q8, q9, q10, q11, q12, q13, q14, q15, q16, q17, q18, q19, q20, q21, q22, q23, q24, q25, q26, q27, q28, q29, q30, q31, q32, q33, q34, q35, q36, q37, q38, q39, q40, q41, q42, q43, q44, q45, q46, q47, q48, q49, q50, q51, q52, q53, q54, q55, q56, q57, q58, q59, q60, q61, q62, q63, q64, q65, q66, q67, q68, q69, q70, q71, q72, q73, q74, q75, q76, q77, q78, q79, q80, rfl, hk, ⟨c, hc, HW⟩, HG⟩
    have c0 := blk_cell HW 0
    have c1 := blk_cell HW 1
    have f1 := blk_frozen HW 1
    simp only [List.getElem?_toArray, List.getElem?_cons_zero, List.getElem?_cons_succ] at c0 c1
    have HW' := Aside0.mk HW
    clear HW h0 h1 h2
    obtain ⟨E, hE⟩ : ∃ E : Int, (a : Int) + (n : Int) = E := ⟨_, rfl⟩
    rw [hE]
    by_cases hlt : k < n
    · have hb1 : c / 8 < s.size := by omega
      have hcE : (c : Int) < E := by omega
      have hbt := bt_at s ((c : Int) / 8)
      have hw8 : IntKind.i64.wrap ((c : Int) / 8) = (c : Int) / 8 := by rw [IntKind.wrap_i64]; omega
      have hlo : 0 ≤ (c : Int) / 8 := by omega
      have hhi : (c : Int) / 8 < (s.size : Int) := by omega
      have hv := rdBits_lt31 s a k (by omega)
      have HB := Aside0.mk (get_bit s a k _ hv)
      obtain ⟨V, hV⟩ : ∃ V : Nat, rdBits s a k = V := ⟨_, rfl⟩
      rw [hV, ← hc] at HB
      rw [hV] at hv ⊢
      have HV := Aside0.mk hV
      have HC := Aside0.mk hc
      have HE := Aside0.mk hE
      have hc9 : c < 8000000000001 := by omega
      clear hV hc hE hl ha
      go_wp2
      go_region
      all_goals go_wp2
      all_goals
        rw [HB.out, show ((2 * V + (bitN s c).toNat : Nat) : Int) = (rdBits s a (k + 1) : Int) from by rw [← HV.out, HC.out]; rfl, ← HE.out]
        go_step3
        refine ⟨rfl, ⟨k + 1, _, _, _, _, _, _, _, _, _, _, _, _, _, _, _, _, _, _, _, _, _, _, _, _, _, _, _, _, _, _, _, _, _, _, _, _, _, _, _, _, _, _, _, _, _, _, _, _, _, _, _, _, _, _, _, _, _, _, _, _, _, _, _, _, _, _, _, _, _, _, _, _, _, _, rfl, by omega, ⟨c + 1, by have := HC.out; omega, ?_⟩, ?_⟩, ?_⟩
        · have h1 := blk_set HW'.out 1 (.int .i64 ((c : Int) + 1))
          refine (show _ = _ from h1).trans ?_
          simp
        · exact only_drew (only_setCell HG rfl _)
        · have h1 := blk_cell (blk_set HW'.out 1 (.int .i64 ((c : Int) + 1))) 1
          simp only [World.cell?_drew, h1, c1]
          simp [intOf]
          have := HE.out
          omega
    · have hcE : ¬ (c : Int) < E := by omega
      have HN := Aside0.mk (show k = n by omega)
      have HC := Aside0.mk hc
      have HE := Aside0.mk hE
      clear hc hE
      go_wp2
      simp only [Exit.jump]
      go_ret
      obtain rfl := HN.out
      exact ⟨rfl, by rw [show (a : Int) + (k : Int) = (c : Int) by have := HC.out; omega]; exact HW'.out, HG⟩
  · intro hrest
    go_wp2
    go_quiet (fail)
    go_wp2
    go_step3
    rename_i K hK
    refine hK _ _ (hrest.out _ _ ⟨0, _, _, _, _, _, _, _, _, _, _, _, _, _, _, _, _, _, _, _, _, _, _, _, _, _, _, _, _, _, _, _, _, _, _, _, _, _, _, _, _, _, _, _, _, _, _, _, _, _, _, _, _, _, _, _, _, _, _, _, _, _, _, _, _, _, _, _, _, _, _, _, _, _, _, rfl, by omega, ?_, ?_⟩)
    · exact ⟨a, by omega, H.out⟩
    · exact only_drewN (World.grownBy.refl w _) _

set_option maxHeartbeats 1000000 in
theorem get_was (w : World) (p : Nat) (s : ByteArray) (a n : Int) (h : RdIs w p 71 s a true) :
    Calls Try.prog 27 #[.pointer (some ⟨p, 0, none⟩), .int .i64 n] w fun e w' => e = .returned (.int .u32 0) ∧ RdIs w' p 71 s a true ∧ w.grownBy w' (some p) := by
  have h2 := blk_cell h 2
  simp only [List.getElem?_toArray, List.getElem?_cons_zero, List.getElem?_cons_succ] at h2
  have H := Aside0.mk h
  clear h
  go_enter Try.func27, Try.ntmps27
  go_wp2
  go_step3
  go_wp2
  rw [Exit.noGoto_ret]
  go_ret
  exact ⟨rfl, H.out, World.grownBy.refl w _⟩

set_option maxHeartbeats 1000000 in
theorem get_over (w : World) (p : Nat) (s : ByteArray) (a n : Int) (h : RdIs w p 71 s a false) (hs : s.size ≤ 1000000000000) (ha : 0 ≤ a ∧ a ≤ 8 * s.size) (hb : n < 0 ∨ n > 32 ∨ n > 8 * (s.size : Int) - a) :
    Calls Try.prog 27 #[.pointer (some ⟨p, 0, none⟩), .int .i64 n] w fun e w' => e = .returned (.int .u32 0) ∧ RdIs w' p 71 s a true ∧ w.grownBy w' (some p) := by
  have h0 := blk_cell h 0
  have h1 := blk_cell h 1
  have h2 := blk_cell h 2
  have f2 := blk_frozen h 2
  simp only [List.getElem?_toArray, List.getElem?_cons_zero, List.getElem?_cons_succ] at h0 h1 h2
  obtain ⟨ha0, ha1⟩ := ha
  have hst := blk_set h 2 (.bool true)
  have H := Aside0.mk hst
  clear h hst
  by_cases b0 : n < 0
  · have hd0 : decide (n < 0) = true := decide_eq_true b0
    clear hb
    go_enter Try.func27, Try.ntmps27
    go_wp2
    go_step3
    go_wp2
    go_quiet (fail)
    go_wp2
    rw [Exit.noGoto_ret]
    go_ret
    exact ⟨rfl, by refine (show _ = _ from H.out).trans ?_; simp, only_setCell (only_drewN (World.grownBy.refl w _) _) rfl _⟩
  · have hd0 : decide (n < 0) = false := decide_eq_false b0
    by_cases b1 : 32 < n
    · have hd1 : decide (32 < n) = true := decide_eq_true b1
      clear hb
      go_enter Try.func27, Try.ntmps27
      go_wp2
      go_step3
      go_wp2
      go_quiet (fail)
      go_wp2
      rw [Exit.noGoto_ret]
      go_ret
      exact ⟨rfl, by refine (show _ = _ from H.out).trans ?_; simp, only_setCell (only_drewN (World.grownBy.refl w _) _) rfl _⟩
    · have hd1 : decide (32 < n) = false := decide_eq_false b1
      have hd2 : decide (8 * (s.size : Int) - a < n) = true := decide_eq_true (by omega)
      clear hb
      go_enter Try.func27, Try.ntmps27
      go_wp2
      go_step3
      go_wp2
      go_quiet (fail)
      go_wp2
      rw [Exit.noGoto_ret]
      go_ret
      exact ⟨rfl, by refine (show _ = _ from H.out).trans ?_; simp, only_setCell (only_drewN (World.grownBy.refl w _) _) rfl _⟩

theorem get_any (w : World) (p : Nat) (s : ByteArray) (a n : Int) (bad : Bool) (h : RdIs w p 71 s a bad) (hs : s.size ≤ 1000000000000) (ha : 0 ≤ a ∧ a ≤ 8 * s.size) :
    Calls Try.prog 27 #[.pointer (some ⟨p, 0, none⟩), .int .i64 n] w fun e w' => e = .returned (.int .u32 (getR s a bad n).1) ∧ RdIs w' p 71 s (getR s a bad n).2.2.1 (getR s a bad n).2.2.2 ∧ w.grownBy w' (some p) := by
  unfold getR
  by_cases hb : bad = true
  · subst hb
    rw [if_pos (.inl rfl)]
    exact get_was w p s a n h
  · have hbf : bad = false := by simpa using hb
    subst hbf
    by_cases hc : n < 0 ∨ n > 32 ∨ n > 8 * (s.size : Int) - a
    · rw [if_pos (.inr hc)]
      exact get_over w p s a n h hs ha hc
    · rw [if_neg (by simp; omega)]
      obtain ⟨a, rfl⟩ : ∃ m : Nat, a = m := ⟨a.toNat, by omega⟩
      obtain ⟨n, rfl⟩ : ∃ m : Nat, n = m := ⟨n.toNat, by omega⟩
      exact get_good w p s a n h hs (by omega) (by omega) (by omega)

end Go.Proofs.Yteegleldmnokkaa.B
