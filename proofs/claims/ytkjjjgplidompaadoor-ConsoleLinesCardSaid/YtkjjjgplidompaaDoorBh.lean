/-
  The bit writers and the bit readers of the program and of the reference: what each call does, as lists of bits tell it.
-/
import Derived.Test.YtkjjjgplidompaaDoorProg
import Derived.Below
import Derived.Deep.Draws
import Derived.Deep.AppendLies
import Derived.Maps.AppendAt
import Derived.OwnWalk
import Derived.Laws.BytesArg
import Derived.Laws.MakeOwn
import Derived.Laws.OwnMore
import Derived.Deep.OwnRows
import Derived.Tactics
import Derived.Lib.ConvBytes
import Derived.Laws.Slices
import Derived.WalkKit
import Derived.KernelRfl
import Derived.RowKit3
import Derived.Deep.LoopGhost
import Derived.Deep.QuietTactic
import Derived.BigQuiet
import Derived.WideLaws
import Derived.Deep.DeepCutAuto
import Derived.Deep.CutBlock
import Derived.Deep.RegionHeld3
import Derived.Laws.Rows
import Derived.Lib.AppendStr
import Derived.ArgAppend
import Derived.Laws.IdiomCopy
import Derived.OrdersHeld
import Derived.Laws.BitsLemmas
import Derived.RowKit
import Derived.Test.YtkjjjgplidompaaDoorWWords
import Derived.Test.YtkjjjgplidompaaDoorWLast
import Derived.Test.YtkjjjgplidompaaDoorWTab
import Derived.Test.YtkjjjgplidompaaDoorWFour
import Derived.Test.YtkjjjgplidompaaDoorWQPut
import Derived.Test.YtkjjjgplidompaaDoorWApart
import Derived.Test.YtkjjjgplidompaaDoorWArr
import Derived.Test.YtkjjjgplidompaaDoorWZeros
import Derived.Test.YtkjjjgplidompaaDoorWFoot
import Derived.Test.YtkjjjgplidompaaDoorWKept
import Derived.Test.YtkjjjgplidompaaDoorWShare
import Derived.Test.YtkjjjgplidompaaDoorWN
import Derived.Test.YtkjjjgplidompaaDoorWFootNe
import Derived.Test.YtkjjjgplidompaaDoorWAt
import Derived.Test.YtkjjjgplidompaaDoorWEqStruct
import Derived.Test.YtkjjjgplidompaaDoorWRepsOne
import Derived.Test.YtkjjjgplidompaaDoorWInv
import Derived.Test.YtkjjjgplidompaaDoorWInvWords
import Derived.Test.YtkjjjgplidompaaDoorWGuard
import Derived.Test.YtkjjjgplidompaaDoorWNEv
import Derived.Test.YtkjjjgplidompaaDoorWMore

import Derived.BigRegion
import Derived.WalkMore
import Derived.ScopeJumps
import Derived.Test.YtkjjjgplidompaaDoorBw
namespace Go.Proofs.YtkjjjgplidompaaDoor.B
open Go.RowKit Go.Proofs.YtkjjjgplidompaaDoorW.PrintWords Go.Proofs.YtkjjjgplidompaaDoorW.PrintLast Go.Proofs.YtkjjjgplidompaaDoorW.PrintMore
set_option linter.unusedVariables false
set_option linter.unusedSimpArgs false

/-- Block p is a writer (its type T, its bytes' element type E) that holds the bits l. -/
def WrIs (w : World) (p T E : Nat) (l : List Bool) : Prop := ∃ v, w.heap[p]? = some (.cells #[v, .int .i64 (l.length : Int)] T (0, 0)) ∧ w.ownsRow (p + 1) E 1 v (packI l).length (nums .u8 (packI l))

theorem info5 : (Tryd.prog.info? 5).map (fun i => (i.zero, i.size, i.bytes)) = some (some (.int .u8 0), 1, 1) := by kernel_rfl

theorem or_bits (x y : Nat) (hx : x < 256) (hy : y < 256) : bits .or .u8 (x : Int) (y : Int) = ((x ||| y : Nat) : Int) := by
  have e : ∀ z : Nat, z < 256 → (BitVec.ofInt 8 (z : Int)).toNat = z := fun z hz => by rw [BitVec.ofInt_natCast, BitVec.toNat_ofNat]; exact Nat.mod_eq_of_lt (by omega)
  have hor : x ||| y < 2 ^ 8 := Nat.or_lt_two_pow (by omega) (by omega)
  show IntKind.u8.wrap ((BitVec.ofInt 8 (x : Int) ||| BitVec.ofInt 8 (y : Int)).toNat : Int) = _
  rw [BitVec.toNat_or, e x hx, e y hy, IntKind.wrap_u8]
  omega

theorem shl_small_bit (b : Bool) (r : Nat) (hr : r < 8) : b.toNat * 2 ^ r < 256 := by
  have h1 : b.toNat ≤ 1 := Bool.toNat_le b
  have h2 : 2 ^ r ≤ 2 ^ 7 := Nat.pow_le_pow_right (by omega) (by omega)
  calc b.toNat * 2 ^ r ≤ 1 * 2 ^ r := Nat.mul_le_mul_right _ h1
    _ < 256 := by omega

theorem packI_set (l : List Nat) (i z : Nat) : (l.set i z).map (fun x : Nat => (x : Int)) = (l.map fun x : Nat => (x : Int)).set i (z : Int) := by rw [List.map_set]
theorem packI_old (l : List Bool) (b : Bool) (h : ¬ l.length % 8 = 0) : packI (l ++ [b]) = (packI l).set (l.length / 8) ((byteAt l (l.length / 8) ||| (b.toNat * 2 ^ (7 - l.length % 8)) : Nat) : Int) := by
  rw [packI, pack_snoc_old l b h, packI_set]; rfl
theorem packI_new (l : List Bool) (b : Bool) (h : l.length % 8 = 0) : packI (l ++ [b]) = (packI l ++ [0]).set (l.length / 8) ((byteAt l (l.length / 8) ||| (b.toNat * 2 ^ (7 - l.length % 8)) : Nat) : Int) := by
  rw [packI, pack_snoc_new l b h, packI_set]; simp [packI]

/-- The writer's block and row behind one bit more. -/
theorem wr_end {w : World} {p T E g cap m : Nat} {l : List Bool} {b : Bool} {xs : List Int} {z : Nat} (HO : w.ownsRow (p + 1) E 1 (.slice (some ⟨g, 0, none⟩) m cap) m (nums .u8 xs))
    (hp : w.heap[p]? = some (.cells #[.slice (some ⟨g, 0, none⟩) m cap, .int .i64 (l.length : Int)] T (0, 0))) (hm : xs.length = m) (hz : packI (l ++ [b]) = xs.set (l.length / 8) (z : Int)) :
    WrIs ((w.setCell ⟨g, l.length / 8, none⟩ (.int .u8 (z : Int))).setCell ⟨p, 1, none⟩ (.int .i64 ((l.length : Int) + 1))).drew p T E (l ++ [b]) ∧
      Below p w ((w.setCell ⟨g, l.length / 8, none⟩ (.int .u8 (z : Int))).setCell ⟨p, 1, none⟩ (.int .i64 ((l.length : Int) + 1))).drew := by
  have hgb : p + 1 ≤ g := own_base HO g rfl
  have hst := own_store HO ((l.length / 8 : Nat) : Int) (z : Int)
  simp only [Int.toNat_natCast] at hst
  refine ⟨⟨.slice (some ⟨g, 0, none⟩) m cap, ?_, ?_⟩, (((Below.refl p w).setCell (p := ⟨g, l.length / 8, none⟩) (show p ≤ g by omega) _).setCell (p := ⟨p, 1, none⟩) (Nat.le_refl p) _).drew⟩
  · have h1 := blk_set (blk_far hp (p := ⟨g, l.length / 8, none⟩) (by show p ≠ g; omega) (.int .u8 (z : Int))) 1 (.int .i64 ((l.length : Int) + 1))
    refine (show _ = _ from h1).trans ?_
    simp
  · have h2 := own_setCell hst.1 (p := ⟨p, 1, none⟩) (by simp [Value.ownBlock]; omega) (.int .i64 ((l.length : Int) + 1))
    rw [hz, List.length_set, hm]
    exact h2

theorem mod_bit (y r : Nat) (h : y * 2 ^ r < 256) : ((y : Int) * 2 ^ r % 256) = ((y * 2 ^ r : Nat) : Int) := by
  have e : (y : Int) * 2 ^ r = ((y * 2 ^ r : Nat) : Int) := by rw [Int.natCast_mul, Int.natCast_pow]; rfl
  rw [e]
  omega

theorem and_one_u32 (v j : Nat) (hv : v < 4294967296) : bits .and .u32 ((v : Int) / 2 ^ j) 1 = ((v.testBit j).toNat : Int) := by
  have e : ((v : Int) / 2 ^ j) = ((v / 2 ^ j : Nat) : Int) := by rw [Int.natCast_ediv, Int.natCast_pow]; rfl
  have hlt : v / 2 ^ j < 4294967296 := Nat.lt_of_le_of_lt (Nat.div_le_self _ _) hv
  have e32 : ∀ z : Nat, z < 4294967296 → (BitVec.ofInt 32 (z : Int)).toNat = z := fun z hz => by rw [BitVec.ofInt_natCast, BitVec.toNat_ofNat]; exact Nat.mod_eq_of_lt (by omega)
  rw [e]
  show IntKind.u32.wrap ((BitVec.ofInt 32 ((v / 2 ^ j : Nat) : Int) &&& BitVec.ofInt 32 ((1 : Nat) : Int)).toNat : Int) = _
  rw [BitVec.toNat_and, e32 _ hlt, e32 1 (by omega), Nat.and_one_is_mod, IntKind.wrap_u32, Nat.testBit_eq_decide_div_mod_eq]
  rcases Nat.mod_two_eq_zero_or_one (v / 2 ^ j) with h | h <;> simp [h]

def PutJ (w : World) (p T E : Nat) (l : List Bool) (v n : Nat) (a' : Act) (w' : World) : Prop :=
  ∃ (k : Int) (l' : List Bool) (q6 q7 q8 q9 q10 q11 q12 q13 q14 q15 q16 q17 q18 q19 q20 q21 q22 q23 q24 q25 q26 q27 q28 q29 q30 q31 q32 q33 q34 : Value), a' = { tmps := #[.pointer (some ⟨p, 0, none⟩), .int .u32 (v : Int), .int .i64 k, undef, undef, undef, q6, q7, q8, q9, q10, q11, q12, q13, q14, q15, q16, q17, q18, q19, q20, q21, q22, q23, q24, q25, q26, q27, q28, q29, q30, q31, q32, q33, q34], defers := [] } ∧ (0 ≤ k ∧ k ≤ 32) ∧ l' ++ toBits k.toNat v = l ++ toBits n v ∧ WrIs w' p T E l' ∧ Below p w w'

/-- Block p is a reader of the text s. -/
def RdIs (w : World) (p T : Nat) (s : ByteArray) (at_ : Int) (bad : Bool) : Prop := w.heap[p]? = some (.cells #[.string s, .int .i64 at_, .bool bad] T (0, 0))
theorem only_drewN {a w : World} {row : Option Nat} (h : a.grownBy w row) (n : Nat) : a.grownBy (w.drewN n) row := ⟨h.os, h.tape, h.output, h.size, h.block⟩
theorem only_drew {a w : World} {row : Option Nat} (h : a.grownBy w row) : a.grownBy w.drew row := ⟨h.os, h.tape, h.output, h.size, h.block⟩
theorem only_setCell {a w : World} {g : Nat} (h : a.grownBy w (some g)) {p : Addr} (hp : p.block = g) (u : Value) : a.grownBy (w.setCell p u) (some g) :=
  ⟨h.os, h.tape, h.output, by simpa [World.setCell] using h.size, fun i hi hne => (Below.heap_setCell w p u i (by rintro rfl; exact hne (by rw [hp]))).trans (h.block i hi hne)⟩
theorem only_trans {a b c : World} {row : Option Nat} (h : a.grownBy b row) (k : b.grownBy c row) : a.grownBy c row :=
  ⟨k.os.trans h.os, k.tape.trans h.tape, k.output.trans h.output, Nat.le_trans h.size k.size, fun i hi hne => (k.block i (Nat.lt_of_lt_of_le hi h.size) hne).trans (h.block i hi hne)⟩

theorem wp_scope_goto {P : Program} {a : Act} {w : World} {Q : Exit → Act → World → Prop} {c rest : Code} (l : Nat) (J : Act → World → Prop) (μ : Act → World → Nat) (hf : findLabel c l = some (.seq .skip rest))
    (pass : ∀ a w, J a w → rest.wp P (Exit.jump l (fun a' w' => J a' w' ∧ μ a' w' < μ a w) Q) a w)
    (first : Aside0 (∀ a w, J a w → rest.wp P (Exit.jump l J Q) a w) → c.wp P (Exit.jump l J Q) a w) : (Code.scope c).wp P Q a w :=
  wp_scope_jumps l J μ hf (first ⟨fun a w h => Code.wp_mono (fun e a' w' q => by cases e <;> first | exact q | exact ⟨q.1, q.2.1⟩) (pass a w h)⟩) (fun a w h => wp_seq (wp_skip (pass a w h)))

def GetJ (w : World) (p T : Nat) (s : ByteArray) (a n : Nat) (a' : Act) (w' : World) : Prop :=
  ∃ (k : Nat) (q7 q8 q9 q10 q11 q12 q13 q14 q15 q16 q17 q18 q19 q20 q21 q22 q23 q24 q25 q26 q27 q28 q29 q30 q31 q32 q33 q34 q35 q36 q37 q38 q39 q40 q41 q42 q43 q44 q45 q46 q47 q48 q49 q50 q51 q52 q53 q54 q55 q56 q57 q58 q59 q60 q61 q62 q63 q64 q65 q66 q67 q68 q69 q70 q71 q72 q73 q74 q75 q76 q77 q78 q79 q80 : Value), a' = { tmps := #[.pointer (some ⟨p, 0, none⟩), .int .i64 (n : Int), undef, undef, .int .u32 0, .int .u32 (rdBits s a k : Int), .int .i64 ((a : Int) + (n : Int)), q7, q8, q9, q10, q11, q12, q13, q14, q15, q16, q17, q18, q19, q20, q21, q22, q23, q24, q25, q26, q27, q28, q29, q30, q31, q32, q33, q34, q35, q36, q37, q38, q39, q40, q41, q42, q43, q44, q45, q46, q47, q48, q49, q50, q51, q52, q53, q54, q55, q56, q57, q58, q59, q60, q61, q62, q63, q64, q65, q66, q67, q68, q69, q70, q71, q72, q73, q74, q75, q76, q77, q78, q79, q80], defers := [] } ∧ k ≤ n ∧ (∃ c : Nat, c = a + k ∧ RdIs w' p T s (c : Int) false) ∧ w.grownBy w' (some p)

theorem get_bit (s : ByteArray) (a k : Nat) (v : Nat) (hv : v < 2147483648) : bits .or .u32 ((v : Int) * 2) (bits .and .u8 (bt s (((a + k : Nat) : Int) / 8) / 2 ^ (7 - (a + k) % 8)) 1 % 4294967296) = ((2 * v + (bitN s (a + k)).toNat : Nat) : Int) := by
  have hb := Bool.toNat_lt (bitN s (a + k))
  rw [show (((a + k : Nat) : Int) / 8) = (((a + k) / 8 : Nat) : Int) from by omega, byteN_bt, and_one_u8 _ _ (byteN_lt s _)]
  show bits .or .u32 ((v : Int) * 2) (((bitN s (a + k)).toNat : Int) % 4294967296) = _
  rw [show ((v : Int) * 2) = ((2 * v : Nat) : Int) by omega, show (((bitN s (a + k)).toNat : Int) % 4294967296) = ((bitN s (a + k)).toNat : Int) by omega]
  exact or_even_u32 v _ hv

end Go.Proofs.YtkjjjgplidompaaDoor.B
