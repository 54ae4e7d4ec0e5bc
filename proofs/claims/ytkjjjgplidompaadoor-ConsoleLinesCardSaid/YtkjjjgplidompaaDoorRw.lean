/-
  Numbers of a kind, as what comes in is read.
-/
import Derived.Test.YtkjjjgplidompaaDoorSa
namespace Go.Proofs.YtkjjjgplidompaaDoor.B
open Go.RowKit
theorem wf_i64 {a : Int} (h : (Lit.int .i64 a).wf = true) : I64 a := by
  simp only [Lit.wf, Bool.and_eq_true, decide_eq_true_eq] at h
  exact ⟨Int.le_trans (show (-9223372036854775808 : Int) ≤ IntKind.i64.min by decide) h.1, Int.le_trans h.2 (show IntKind.i64.max ≤ (9223372036854775807 : Int) by decide)⟩
def U16 (a : Int) : Prop := 0 ≤ a ∧ a ≤ 65535
def U32 (a : Int) : Prop := 0 ≤ a ∧ a ≤ 4294967295
def U8 (a : Int) : Prop := 0 ≤ a ∧ a ≤ 255
theorem wf_u16 {a : Int} (h : (Lit.int .u16 a).wf = true) : U16 a := by
  simp only [Lit.wf, Bool.and_eq_true, decide_eq_true_eq] at h
  exact ⟨Int.le_trans (show (0 : Int) ≤ IntKind.u16.min by decide) h.1, Int.le_trans h.2 (show IntKind.u16.max ≤ (65535 : Int) by decide)⟩
theorem wf_u32 {a : Int} (h : (Lit.int .u32 a).wf = true) : U32 a := by
  simp only [Lit.wf, Bool.and_eq_true, decide_eq_true_eq] at h
  exact ⟨Int.le_trans (show (0 : Int) ≤ IntKind.u32.min by decide) h.1, Int.le_trans h.2 (show IntKind.u32.max ≤ (4294967295 : Int) by decide)⟩
theorem wf_u8 {a : Int} (h : (Lit.int .u8 a).wf = true) : U8 a := by
  simp only [Lit.wf, Bool.and_eq_true, decide_eq_true_eq] at h
  exact ⟨Int.le_trans (show (0 : Int) ≤ IntKind.u8.min by decide) h.1, Int.le_trans h.2 (show IntKind.u8.max ≤ (255 : Int) by decide)⟩
theorem wfs_i64 {l : List Int} (h : ∀ x ∈ l, (Lit.int .i64 x).wf = true) : ∀ x ∈ l, I64 x := fun x hx => wf_i64 (h x hx)
theorem wfs_u16 {l : List Int} (h : ∀ x ∈ l, (Lit.int .u16 x).wf = true) : ∀ x ∈ l, U16 x := fun x hx => wf_u16 (h x hx)
end Go.Proofs.YtkjjjgplidompaaDoor.B
