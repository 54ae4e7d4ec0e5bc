/- What NackEncodes computes is true: the program's body of a list is the document's. For every list of 64-bit numbers and every two 32-bit numbers; no other condition. -/
import Derived.Test.YtnllbldfganfgaaPNackEncodesx4
namespace Go.Proofs.Ytnllbldfganfgaa.Pure
open Go.RowKit Go.Proofs.Ytnllbldfganfgaa.PNackEncodes Go.Proofs.YtnllbldfganfgaaW.PrintWords Go.Proofs.YtnllbldfganfgaaW.PrintLast
open Go.Proofs.YtnllbldfganfgaaW.PrintMore
theorem wakes1 : B.nackEnc 1 2 [5, 6, 21] = (⟨#[0, 0, 0, 1, 0, 0, 0, 2, 0, 5, 128, 1]⟩, 0) := by decide +kernel
theorem wakes2 : B.nackDec ⟨#[0, 0, 0, 1, 0, 0, 0, 2, 0, 5, 128, 1]⟩ = (1, 2, [5, 6, 21], 0) := by decide +kernel
theorem wakes : flywheellaw11_wakes.f = some true := by
  unfold flywheellaw11_wakes.f nack_Encode.f nack_Decode.f
  simp only [wakes1]
  rw [if_pos (by omega), if_pos (by omega), if_pos (by omega), if_pos (by omega)]
  simp only [Option.bind_some]
  rw [if_pos (by decide)]
  simp only [wakes2, Option.bind_some]
  decide +kernel
theorem w_suc (n : Nat) (h : n ≤ 1000000000000000) : wrap64 ((n : Int) + 1) = ((n + 1 : Nat) : Int) := by unfold wrap64; omega
theorem ints_refl (l : List Int) (hl : l.length ≤ 4000000000000) : ∀ (d k i : Nat), i + d = l.length → d < k → flywheelkeep_Ints.l0 k l l (i : Int) = some true := by
  intro d
  induction d with
  | zero =>
    intro k i hi hk
    obtain ⟨k, rfl⟩ : ∃ m, k = m + 1 := ⟨k - 1, by omega⟩
    simp only [flywheelkeep_Ints.l0]
    rw [if_neg (by omega)]
  | succ d ih =>
    intro k i hi hk
    obtain ⟨k, rfl⟩ : ∃ m, k = m + 1 := ⟨k - 1, by omega⟩
    simp only [flywheelkeep_Ints.l0]
    rw [if_pos (by omega), if_pos (by omega), if_pos (by omega), w_suc i (by omega)]
    simp only [if_true]
    exact ih k (i + 1) (by omega) (by omega)
theorem ints_same (l : List Int) (hl : l.length ≤ 4000000000000) (k : Nat) (hk : l.length < k) : flywheelkeep_Ints.f k l l = some true := by
  unfold flywheelkeep_Ints.f
  rw [if_pos rfl]
  exact ints_refl l hl l.length k 0 (by omega) hk
theorem same_refl (a b : Int) (l : List Int) (hl : l.length ≤ 4000000000000) (k : Nat) (hk : l.length < k) : flywheelref11_Same.f k a b l a b l = some true := by
  unfold flywheelref11_Same.f
  rw [if_pos rfl, if_pos rfl, ints_same l hl k hk]
  rfl
theorem u32_wf (z : Int) (h : (Lit.int .u32 z).wf = true) : 0 ≤ z ∧ z < 4294967296 := by
  simp only [Lit.wf, Bool.and_eq_true, decide_eq_true_eq] at h
  have e1 : IntKind.u32.min = 0 := rfl
  have e2 : IntKind.u32.max = 4294967295 := rfl
  omega
theorem NackEncodes (a0_0 a0_1 : Int) (l0_2 : List Int) (w0 : (Lit.int .u32 a0_0).wf = true) (w1 : (Lit.int .u32 a0_1).wf = true) (_hm : l0_2.length ≤ maxLen) (_hw : ∀ x ∈ l0_2, (Lit.int .i64 x).wf = true) :
    ∃ k, flywheellaw11_NackEncodes.f k a0_0 a0_1 l0_2 = some true := by
  have b0 := u32_wf _ w0
  have b1 := u32_wf _ w1
  refine ⟨5002, ?_⟩
  unfold flywheellaw11_NackEncodes.f
  by_cases hlong : (l0_2.length : Int) > 5000
  · rw [if_pos hlong, wakes]
    rfl
  rw [if_neg hlong]
  unfold flywheellaw11_few.f
  simp only [Option.bind_some, List.nil_append, List.length_nil, Nat.zero_add]
  rw [if_pos (by omega)]
  unfold nack_Encode.f flywheelref11_Encode.f
  simp only [Option.bind_some]
  rw [if_pos b0.1, if_pos b0.2, if_pos b1.1, if_pos b1.2, same_refl _ _ _ (by omega) _ (by omega), wakes]
  simp only [Option.bind_some, if_true]
end Go.Proofs.Ytnllbldfganfgaa.Pure
