/- What NackBack computes is true: a list that was encoded is decoded as it was, and what was decoded is encoded to no more, which is decoded alike. For every list and every text; no other condition. -/
import Derived.Test.YtnllbldfganfgaaPNackBackx3
import Derived.Test.YtnllbldfganfgaaPn
namespace Go.Proofs.Ytnllbldfganfgaa.Pure
open Go.RowKit Go.Proofs.Ytnllbldfganfgaa.PNackBack Go.Proofs.YtnllbldfganfgaaW.PrintWords Go.Proofs.YtnllbldfganfgaaW.PrintLast Go.Proofs.YtnllbldfganfgaaW.PrintMore
theorem wakes1 : B.nackEnc 1 2 [5, 6, 21] = (⟨#[0, 0, 0, 1, 0, 0, 0, 2, 0, 5, 128, 1]⟩, 0) := by decide +kernel
theorem wakes2 : B.nackDec ⟨#[0, 0, 0, 1, 0, 0, 0, 2, 0, 5, 128, 1]⟩ = (1, 2, [5, 6, 21], 0) := by decide +kernel
theorem wakes : flywheellaw11_wakes.f = some true := by
  unfold flywheellaw11_wakes.f nack_Encode.f nack_Decode.f
  simp only [wakes1]
  rw [if_pos (by omega), if_pos (by omega), if_pos (by omega), if_pos (by omega)]
  simp only [Option.bind_some]
  rw [if_pos (by decide)]
  simp only [wakes2, Option.bind_some]
  decide +kernel
theorem w_suc (n : Nat) (h : n ≤ 1000000000000000) : wrap64 ((n : Int) + 1) = ((n + 1 : Nat) : Int) := by unfold wrap64; omega
theorem ints_refl (l : List Int) (hl : l.length ≤ 4000000000000) : ∀ (d k i : Nat), i + d = l.length → d < k → flywheelkeep_Ints.l0 k l l (i : Int) = some true := by
  intro d
  induction d with
  | zero =>
    intro k i hi hk
    obtain ⟨k, rfl⟩ : ∃ m, k = m + 1 := ⟨k - 1, by omega⟩
    simp only [flywheelkeep_Ints.l0]
    rw [if_neg (by omega)]
  | succ d ih =>
    intro k i hi hk
    obtain ⟨k, rfl⟩ : ∃ m, k = m + 1 := ⟨k - 1, by omega⟩
    simp only [flywheelkeep_Ints.l0]
    rw [if_pos (by omega), if_pos (by omega), if_pos (by omega), w_suc i (by omega)]
    simp only [if_true]
    exact ih k (i + 1) (by omega) (by omega)
theorem ints_same (l : List Int) (hl : l.length ≤ 4000000000000) (k : Nat) (hk : l.length < k) : flywheelkeep_Ints.f k l l = some true := by
  unfold flywheelkeep_Ints.f
  rw [if_pos rfl]
  exact ints_refl l hl l.length k 0 (by omega) hk
theorem same_refl (a b : Int) (l : List Int) (hl : l.length ≤ 4000000000000) (k : Nat) (hk : l.length < k) : flywheelref11_Same.f k a b l a b l = some true := by
  unfold flywheelref11_Same.f
  rw [if_pos rfl, if_pos rfl, ints_same l hl k hk]
  rfl
theorem u32_wf (z : Int) (h : (Lit.int .u32 z).wf = true) : 0 ≤ z ∧ z < 4294967296 := by
  simp only [Lit.wf, Bool.and_eq_true, decide_eq_true_eq] at h
  have e1 : IntKind.u32.min = 0 := rfl
  have e2 : IntKind.u32.max = 4294967295 := rfl
  omega
theorem few_is (a b : Int) (l : List Int) (h : l.length ≤ 5000) : flywheellaw11_few.f a b l = some (a, b, l) := by
  unfold flywheellaw11_few.f
  simp only [Option.bind_some, List.nil_append, List.length_nil, Nat.zero_add]
  rw [if_pos (by omega)]
theorem enc_is (s m : Nat) (hs : s < 4294967296) (hm : m < 4294967296) (l : List Int) : nack_Encode.f (s : Int) (m : Int) l = some (B.nackEnc s m l) := by
  unfold nack_Encode.f
  rw [if_pos (by omega), if_pos (by omega), if_pos (by omega), if_pos (by omega)]
theorem enc_bad (s m : Nat) (l : List Int) (hg : ¬ B.goodB l = true) : B.nackEnc (s : Int) (m : Int) l = (⟨#[]⟩, 1) := by
  unfold B.nackEnc
  rw [if_neg hg]
theorem dec_is (s : ByteArray) (h : s.size ≤ 1000000000000000000) : nack_Decode.f s = some (B.nackDec s) := by
  unfold nack_Decode.f
  rw [if_pos h]
theorem back1 (k : Nat) (hk : 5001 ≤ k) (s : ByteArray) (hs : s.size ≤ 140737488351232) : flywheellaw11_NackBack.j1 (k + 1) s = some true := by
  simp only [flywheellaw11_NackBack.j1]
  rw [dec_is s (by omega)]
  rw [Option.bind_some]
  rcases B.dec_cases s with ⟨h1, h2⟩ | ⟨S, M, hS, hM, l, h1, hg, hsz⟩
  · rw [if_neg h1, h2]
    simp [wakes]
  · have hl := (B.goodB_up l hg).2.2
    have hel := B.ents_le l
    obtain ⟨T, hT, hes, hde⟩ := B.enc_dec S M hS hM l hg
    rw [h1]
    dsimp only
    rw [if_pos rfl, few_is _ _ _ (by omega)]
    rw [Option.bind_some]
    dsimp only
    rw [enc_is S M hS hM l, hT]
    rw [Option.bind_some]
    dsimp only
    rw [dec_is _ (by omega), hde]
    rw [Option.bind_some]
    dsimp only
    rw [if_pos rfl, if_pos rfl, same_refl _ _ _ (by omega) _ (by omega)]
    rw [Option.bind_some, if_pos rfl, if_pos (by omega), wakes]
    rfl
theorem NackBack (a0_0 a0_1 : Int) (l0_2 : List Int) (a1 : ByteArray) (w0 : (Lit.int .u32 a0_0).wf = true) (w1 : (Lit.int .u32 a0_1).wf = true) (_hm : l0_2.length ≤ maxLen) (_hw : ∀ x ∈ l0_2, (Lit.int .i64 x).wf = true) (hs : a1.size ≤ 140737488351232) :
    ∃ k, flywheellaw11_NackBack.f k a0_0 a0_1 l0_2 a1 = some true := by
  have b0 := u32_wf _ w0
  have b1 := u32_wf _ w1
  obtain ⟨s, rfl⟩ : ∃ n : Nat, a0_0 = (n : Int) := ⟨a0_0.toNat, by omega⟩
  obtain ⟨m, rfl⟩ : ∃ n : Nat, a0_1 = (n : Int) := ⟨a0_1.toNat, by omega⟩
  refine ⟨5003, ?_⟩
  unfold flywheellaw11_NackBack.f
  have hyes : flywheellaw11_NackBack.j0 5003 a1 true (s : Int) (m : Int) l0_2 = some true := by
    simp only [flywheellaw11_NackBack.j0, if_true, wakes]
    rfl
  by_cases hlong : (l0_2.length : Int) > 5000
  · rw [if_pos hlong, hyes]
  rw [if_neg hlong]
  cases hd : decide ((a1.size : Int) > 70000) with
  | true => exact hyes
  | false =>
    have hb := back1 5001 (by omega) a1 hs
    show flywheellaw11_NackBack.j0 (5002 + 1) a1 false (s : Int) (m : Int) l0_2 = some true
    have hb : flywheellaw11_NackBack.j1 5002 a1 = some true := hb
    obtain ⟨K, hK⟩ : ∃ K, 5002 = K := ⟨_, rfl⟩
    rw [hK] at hb ⊢
    simp only [flywheellaw11_NackBack.j0]
    rw [if_neg (by decide), few_is _ _ _ (by omega)]
    rw [Option.bind_some]
    dsimp only
    rw [enc_is s m (by omega) (by omega) l0_2]
    rw [Option.bind_some]
    by_cases hg : B.goodB l0_2 = true
    · have hl := (B.goodB_up l0_2 hg).2.2
      have hel := B.ents_le l0_2
      obtain ⟨T, hT, hes, hde⟩ := B.enc_dec s m (by omega) (by omega) l0_2 hg
      rw [hT]
      dsimp only
      rw [if_pos rfl, dec_is _ (by omega), hde]
      rw [Option.bind_some]
      dsimp only
      rw [if_pos rfl, same_refl _ _ _ (by omega) _ (by omega)]
      rw [Option.bind_some, if_pos rfl]
      exact hb
    · rw [enc_bad s m l0_2 hg]
      rw [if_neg (by decide)]
      exact hb
end Go.Proofs.Ytnllbldfganfgaa.Pure
