/- What NackDecodes computes is true: the program's list of a body is the document's, and a list that is known is read. For every body; no condition. -/
import Derived.Test.YtnllbldfganfgaaPNackDecodesx5
namespace Go.Proofs.Ytnllbldfganfgaa.Pure
open Go.RowKit Go.Proofs.Ytnllbldfganfgaa.PNackDecodes Go.Proofs.YtnllbldfganfgaaW.PrintWords Go.Proofs.YtnllbldfganfgaaW.PrintLast
open Go.Proofs.YtnllbldfganfgaaW.PrintMore
theorem wakes1 : B.nackEnc 1 2 [5, 6, 21] = (⟨#[0, 0, 0, 1, 0, 0, 0, 2, 0, 5, 128, 1]⟩, 0) := by decide +kernel
theorem wakes2 : B.nackDec ⟨#[0, 0, 0, 1, 0, 0, 0, 2, 0, 5, 128, 1]⟩ = (1, 2, [5, 6, 21], 0) := by decide +kernel
theorem wakes : flywheellaw11_wakes.f = some true := by
  unfold flywheellaw11_wakes.f nack_Encode.f nack_Decode.f
  simp only [wakes1]
  rw [if_pos (by omega), if_pos (by omega), if_pos (by omega), if_pos (by omega)]
  simp only [Option.bind_some]
  rw [if_pos (by decide)]
  simp only [wakes2, Option.bind_some]
  decide +kernel
theorem w_nat (n : Nat) (h : n ≤ 1000000000000000) : wrap64 (n : Int) = (n : Int) := by unfold wrap64; omega
theorem w_suc (n : Nat) (h : n ≤ 1000000000000000) : wrap64 ((n : Int) + 1) = ((n + 1 : Nat) : Int) := by unfold wrap64; omega
theorem w_div8 (n : Nat) (h : n ≤ 1000000000000000) : wrap64 (Int.tdiv (n : Int) 8) = ((n / 8 : Nat) : Int) := by
  rw [Int.tdiv_eq_ediv_of_nonneg (by omega)]; unfold wrap64; omega
theorem u_nat (n : Nat) (h : n ≤ 1000000000000000) : IntKind.u64.wrap (n : Int) = (n : Int) := by rw [IntKind.wrap_u64]; omega
theorem w_mod7 (n : Nat) : wrap64 (7 - (Int.tmod (n : Int) 8)) = ((7 - n % 8 : Nat) : Int) := by
  rw [Int.tmod_eq_emod_of_nonneg (by omega)]; unfold wrap64; omega
theorem get_step (v b : Nat) (hv : v < 2147483648) (hb : b < 2) : (((v : Int) * 2) % 4294967296 + (b : Int) % 4294967296) % 4294967296 = ((2 * v + b : Nat) : Int) := by omega
theorem w_left (z y : Nat) (hz : z ≤ 1000000) (hy : y ≤ 8 * z) : wrap64 (wrap64 (8 * (z : Int)) - (y : Int)) = ((8 * z - y : Nat) : Int) := by unfold wrap64; omega
theorem w_sum (f i : Nat) (hf : f < 65536) (hi : i < 16) : Int.tmod (wrap64 (wrap64 ((f : Int) + (i : Int)) + 1)) 65536 = (((f + i + 1) % 65536 : Nat) : Int) := by
  rw [show wrap64 (wrap64 ((f : Int) + (i : Int)) + 1) = ((f + i + 1 : Nat) : Int) by unfold wrap64; omega, Int.tmod_eq_emod_of_nonneg (by omega)]; omega
theorem ref_bit (s : ByteArray) (q : Nat) (hq : q ≤ 8000000) : Go.bits .and .u8 (shr .u8 (bt s (wrap64 (Int.tdiv (q : Int) 8))) (IntKind.u64.wrap (wrap64 (7 - (Int.tmod (q : Int) 8))))) 1 = ((B.bitN s q).toNat : Int) := by
  rw [w_div8 q (by omega), w_mod7 q, u_nat _ (by omega), B.byteN_bt]
  unfold shr
  rw [Int.toNat_natCast, Nat.min_eq_left (show 7 - q % 8 ≤ IntKind.u8.bits from by show 7 - q % 8 ≤ 8; omega), B.and_one_u8 _ _ (B.byteN_lt _ _)]
  rfl
theorem ref_get_step (s : ByteArray) (n i v q k : Nat) (h1 : i < n) (hn : n ≤ 32) (hq : q < 8 * s.size) (hs : s.size ≤ 1000000) (hv : v < 2147483648) :
    flywheelref06_Reader_Get.l0 (k + 1) (n : Int) (v : Int) (i : Int) s (q : Int) false = flywheelref06_Reader_Get.l0 k (n : Int) ((2 * v + (B.bitN s q).toNat : Nat) : Int) ((i + 1 : Nat) : Int) s ((q + 1 : Nat) : Int) false := by
  simp only [flywheelref06_Reader_Get.l0]
  have hb := Bool.toNat_lt (B.bitN s q)
  rw [ref_bit s q (by omega), w_div8 q (by omega), w_mod7 q, u_nat _ (by omega), get_step v _ hv hb, w_suc i (by omega), w_suc q (by omega)]
  rw [if_pos (by omega), if_pos (by omega), if_pos (by omega), if_pos (by omega)]
theorem ref_get_l0 (s : ByteArray) (a n : Nat) (hn : n ≤ 32) (ha : a + n ≤ 8 * s.size) (hs : s.size ≤ 1000000) : ∀ (d k i : Nat), i + d = n → d < k →
    flywheelref06_Reader_Get.l0 k (n : Int) (B.rdBits s a i : Int) (i : Int) s ((a + i : Nat) : Int) false = some ((B.rdBits s a n : Int), s, ((a + n : Nat) : Int), false) := by
  intro d
  induction d with
  | zero =>
    intro k i hi hk
    obtain ⟨k, rfl⟩ : ∃ m, k = m + 1 := ⟨k - 1, by omega⟩
    obtain rfl : i = n := by omega
    simp only [flywheelref06_Reader_Get.l0]
    rw [if_neg (by omega)]
  | succ d ih =>
    intro k i hi hk
    obtain ⟨k, rfl⟩ : ∃ m, k = m + 1 := ⟨k - 1, by omega⟩
    rw [ref_get_step s n i _ (a + i) k (by omega) hn (by omega) hs (B.rdBits_lt31 s a i (by omega))]
    exact ih k (i + 1) (by omega) (by omega)
theorem ref_get (s : ByteArray) (a n k : Nat) (hn : n ≤ 32) (ha : a + n ≤ 8 * s.size) (hs : s.size ≤ 1000000) (hk : n + 2 ≤ k) :
    flywheelref06_Reader_Get.f k s (a : Int) false (n : Int) = some ((B.rdBits s a n : Int), s, ((a + n : Nat) : Int), false) := by
  obtain ⟨k, rfl⟩ : ∃ m, k = m + 1 := ⟨k - 1, by omega⟩
  unfold flywheelref06_Reader_Get.f
  have e : decide ((n : Int) > wrap64 (wrap64 (8 * (s.size : Int)) - (a : Int))) = false := by
    rw [w_left s.size a hs (by omega)]
    exact decide_eq_false (by omega)
  rw [if_neg (by decide), if_neg (by omega), if_neg (by omega), e]
  simp only [flywheelref06_Reader_Get.j0]
  rw [if_neg (by decide)]
  exact ref_get_l0 s a n hn ha hs n k 0 (by omega) (by omega)
theorem and_bit (m i : Nat) (hm : m < 65536) (hi : i < 16) : Go.bits .and .u32 (shr .u32 (m : Int) (i : Int)) 1 = if m.testBit i = true then 1 else 0 := by
  unfold shr
  rw [Int.toNat_natCast, Nat.min_eq_left (show i ≤ IntKind.u32.bits from by show i ≤ 32; omega), B.and_one_u32 m i (by omega)]
  cases m.testBit i <;> rfl
theorem ref_dec_step (s : ByteArray) (f m i k : Nat) (hf : f < 65536) (hm : m < 65536) (hi : i < 16) (at_ S M : Int) (Y : List Int) (hY : Y.length < 2000000) :
    flywheelref11_Decode.l1 (k + 1) (f : Int) (m : Int) (i : Int) s at_ false S M Y = flywheelref11_Decode.l1 k (f : Int) (m : Int) ((i + 1 : Nat) : Int) s at_ false S M (Y ++ if m.testBit i = true then [(((f + i + 1) % 65536 : Nat) : Int)] else []) := by
  simp only [flywheelref11_Decode.l1]
  rw [u_nat i (by omega), and_bit m i hm hi, w_suc i (by omega), w_sum f i hf hi, if_pos (by omega), if_pos (by omega)]
  by_cases hb : m.testBit i = true
  · rw [if_pos hb, if_pos rfl, if_pos (by omega), if_pos hb]
  · rw [if_neg hb, if_neg (by decide), if_neg hb, List.append_nil]
theorem lostPart_step (f m i : Nat) (X : List Int) : (X ++ B.lostPart f m i) ++ (if m.testBit i = true then [(((f + i + 1) % 65536 : Nat) : Int)] else []) = X ++ B.lostPart f m (i + 1) := by
  by_cases hb : m.testBit i = true
  · rw [if_pos hb, List.append_assoc, ← B.lostPart_yes f m i hb]
  · rw [if_neg hb, List.append_nil, B.lostPart_no f m i (by simpa using hb)]
theorem ref_dec_l1 (s : ByteArray) (f m : Nat) (hf : f < 65536) (hm : m < 65536) (at_ S M : Int) (X : List Int) (hX : X.length ≤ 1000000) : ∀ (d k i : Nat), i + d = 16 →
    flywheelref11_Decode.l1 (k + d + 1) (f : Int) (m : Int) (i : Int) s at_ false S M (X ++ B.lostPart f m i) = flywheelref11_Decode.l0 k s at_ false S M (X ++ B.lostPart f m 16) := by
  intro d
  induction d with
  | zero =>
    intro k i hi
    obtain rfl : i = 16 := by omega
    simp only [flywheelref11_Decode.l1]
    rw [if_neg (by decide)]
  | succ d ih =>
    intro k i hi
    have hl := B.lostPart_length f m i
    rw [show k + (d + 1) + 1 = (k + d + 1) + 1 by omega, ref_dec_step s f m i _ hf hm (by omega) at_ S M _ (by rw [List.length_append]; omega), lostPart_step]
    exact ih k (i + 1) (by omega)
theorem ref_dec_end (s : ByteArray) (S M : Int) (k q : Nat) (hs : s.size ≤ 65536) (hq : q = 8 * s.size) (X : List Int) :
    flywheelref11_Decode.l0 (k + 1) s (q : Int) false S M X = (if 4096 < X.length then some (0, 0, [], 3) else if B.goodB X = true then some (S, M, X, 0) else some (0, 0, [], 110)) := by
  simp only [flywheelref11_Decode.l0, flywheelref06_Reader_Left.f]
  rw [w_left s.size q (by omega) (by omega), if_neg (by decide)]
  simp only [Option.bind_some]
  rw [if_neg (by omega)]
  by_cases h1 : 4096 < X.length
  · rw [if_pos h1, if_pos (by omega)]
  rw [if_neg h1, if_neg (by omega)]
  simp only [flywheelref11_Good.f, Option.bind_some]
theorem ref_dec_round (s : ByteArray) (S M : Int) (k q : Nat) (hs : s.size ≤ 65536) (hq : q + 32 ≤ 8 * s.size) (hk : 18 ≤ k) (X : List Int) (hX : X.length ≤ 1000000) :
    flywheelref11_Decode.l0 (k + 16 + 1 + 1) s (q : Int) false S M X = flywheelref11_Decode.l0 k s ((q + 32 : Nat) : Int) false S M (X ++ B.lostPart (B.rdBits s q 16) (B.rdBits s (q + 16) 16) 16) := by
  have hf := B.rdBits_lt s q 16
  have h2 := ref_dec_l1 s (B.rdBits s q 16) (B.rdBits s (q + 16) 16) hf (B.rdBits_lt s (q + 16) 16) ((q + 16 + 16 : Nat) : Int) S M X hX 16 k 0 rfl
  have g1 := ref_get s q 16 (k + 16 + 1) (by omega) (by omega) (by omega) (by omega)
  have g2 := ref_get s (q + 16) 16 (k + 16 + 1) (by omega) (by omega) (by omega) (by omega)
  rw [B.lostPart_zero] at h2
  obtain ⟨K, hK⟩ : ∃ K, k + 16 + 1 = K := ⟨_, rfl⟩
  rw [hK] at g1 g2 h2 ⊢
  simp only [flywheelref11_Decode.l0, flywheelref06_Reader_Left.f]
  rw [w_left s.size q (by omega) (by omega), if_neg (by decide)]
  simp only [Option.bind_some]
  rw [if_pos (by omega), show (16 : Int) = ((16 : Nat) : Int) from rfl, g1]
  simp only [Option.bind_some]
  rw [g2]
  simp only [Option.bind_some]
  rw [if_pos (by omega), w_nat _ (by omega)]
  exact h2
theorem ref_dec_l0 (s : ByteArray) (S M : Int) (n : Nat) (hn : s.size = 8 + 4 * n) (hs : s.size ≤ 65536) : ∀ (d k j : Nat), j + d = n → 40 ≤ k →
    flywheelref11_Decode.l0 (k + 18 * d) s ((64 + 32 * j : Nat) : Int) false S M (B.lostAll s j) =
      (if 4096 < (B.lostAll s n).length then some (0, 0, [], 3) else if B.goodB (B.lostAll s n) = true then some (S, M, B.lostAll s n, 0) else some (0, 0, [], 110)) := by
  intro d
  induction d with
  | zero =>
    intro k j hj hk
    obtain ⟨k, rfl⟩ : ∃ m, k = m + 1 := ⟨k - 1, by omega⟩
    obtain rfl : j = n := by omega
    exact ref_dec_end s S M k _ hs (by omega) _
  | succ d ih =>
    intro k j hj hk
    have hl := B.lostAll_length s j
    rw [show k + 18 * (d + 1) = (k + 18 * d) + 16 + 1 + 1 by omega, ref_dec_round s S M (k + 18 * d) _ hs (by omega) (by omega) _ (by omega)]
    have h1 := ih k (j + 1) (by omega) hk
    rw [B.lostAll_succ] at h1
    unfold B.lostAt at h1
    rw [show 64 + 32 * j + 16 = 80 + 32 * j by omega]
    exact h1
theorem ref_dec (s : ByteArray) : ∃ k, flywheelref11_Decode.f k s = some (B.nackDec s) := by
  refine ⟨40 + 18 * ((s.size - 8) / 4), ?_⟩
  unfold flywheelref11_Decode.f B.nackDec
  by_cases c1 : 65536 < s.size
  · rw [if_pos c1, if_pos (by omega)]
  rw [if_neg c1, if_neg (by omega)]
  by_cases c2 : s.size % 4 ≠ 0
  · rw [if_pos c2, if_neg (by omega)]
  rw [if_neg c2, if_pos (by omega)]
  by_cases c3 : s.size < 12
  · rw [if_pos c3, if_pos (by omega)]
  rw [if_neg c3, if_neg (by omega)]
  have g1 := ref_get s 0 32 (40 + 18 * ((s.size - 8) / 4)) (by omega) (by omega) (by omega) (by omega)
  have g2 := ref_get s 32 32 (40 + 18 * ((s.size - 8) / 4)) (by omega) (by omega) (by omega) (by omega)
  simp only [flywheelref06_Read.f, Option.bind_some]
  rw [show (32 : Int) = ((32 : Nat) : Int) from rfl, show (0 : Int) = ((0 : Nat) : Int) from rfl, g1]
  simp only [Option.bind_some, Nat.zero_add]
  rw [g2]
  simp only [Option.bind_some]
  have h := ref_dec_l0 s (B.rdBits s 0 32 : Int) (B.rdBits s 32 32 : Int) ((s.size - 8) / 4) (by omega) (by omega) ((s.size - 8) / 4) 40 0 (by omega) (by omega)
  refine h.trans ?_
  split
  · rfl
  · split <;> rfl
theorem ints_refl (l : List Int) (hl : l.length ≤ 4000000000000) : ∀ (d k i : Nat), i + d = l.length → d < k → flywheelkeep_Ints.l0 k l l (i : Int) = some true := by
  intro d
  induction d with
  | zero =>
    intro k i hi hk
    obtain ⟨k, rfl⟩ : ∃ m, k = m + 1 := ⟨k - 1, by omega⟩
    simp only [flywheelkeep_Ints.l0]
    rw [if_neg (by omega)]
  | succ d ih =>
    intro k i hi hk
    obtain ⟨k, rfl⟩ : ∃ m, k = m + 1 := ⟨k - 1, by omega⟩
    simp only [flywheelkeep_Ints.l0]
    rw [if_pos (by omega), if_pos (by omega), if_pos (by omega), w_suc i (by omega)]
    simp only [if_true]
    exact ih k (i + 1) (by omega) (by omega)
theorem ints_same (l : List Int) (hl : l.length ≤ 4000000000000) (k : Nat) (hk : l.length < k) : flywheelkeep_Ints.f k l l = some true := by
  unfold flywheelkeep_Ints.f
  rw [if_pos rfl]
  exact ints_refl l hl l.length k 0 (by omega) hk
theorem same_refl (a b : Int) (l : List Int) (hl : l.length ≤ 4000000000000) (k : Nat) (hk : l.length < k) : flywheelref11_Same.f k a b l a b l = some true := by
  unfold flywheelref11_Same.f
  rw [if_pos rfl, if_pos rfl, ints_same l hl k hk]
  rfl
theorem nackDec_length (s : ByteArray) : (B.nackDec s).2.2.1.length ≤ 4096 := by
  unfold B.nackDec
  split
  · simp
  · split
    · simp
    · split
      · simp
      · split
        · simp
        · split
          · show (B.lostAll s ((s.size - 8) / 4)).length ≤ 4096; omega
          · simp
theorem NackDecodes : flywheellaw11_NackDecodes.Pure := by
  intro a0 h0
  obtain ⟨k1, hk1⟩ := ref_dec a0
  by_cases hlong : (a0.size : Int) > 70000
  · refine ⟨0, ?_⟩
    unfold flywheellaw11_NackDecodes.f
    rw [if_pos hlong, wakes]
    rfl
  · refine ⟨k1 + 5000, ?_⟩
    have hk2 : flywheelref11_Decode.f (k1 + 5000) a0 = some (B.nackDec a0) := by
      have : ∀ j, flywheelref11_Decode.f (k1 + j) a0 = some (B.nackDec a0) := by
        intro j
        induction j with
        | zero => exact hk1
        | succ j ih => exact flywheelref11_Decode.mono a0 (k1 + j) _ ih
      exact this 5000
    unfold flywheellaw11_NackDecodes.f
    rw [if_neg hlong, hk2]
    unfold nack_Decode.f
    rw [if_pos (by omega)]
    simp only [Option.bind_some]
    have hl := nackDec_length a0
    rw [same_refl _ _ _ (by omega) _ (by omega)]
    simp only [Option.bind_some]
    simp only [if_true, wakes, Option.bind_some]
end Go.Proofs.Ytnllbldfganfgaa.Pure
