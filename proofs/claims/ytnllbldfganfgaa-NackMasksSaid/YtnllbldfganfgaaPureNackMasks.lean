/- What NackMasks computes is true: an entry tells of its number and of those whose bit is set. For every number and every mask; no condition. -/
import Derived.Test.YtnllbldfganfgaaPNackMasksx3
import Derived.Test.YtnllbldfganfgaaPn
namespace Go.Proofs.Ytnllbldfganfgaa.Pure
open Go.RowKit Go.Proofs.Ytnllbldfganfgaa.PNackMasks Go.Proofs.YtnllbldfganfgaaW.PrintWords Go.Proofs.YtnllbldfganfgaaW.PrintLast Go.Proofs.YtnllbldfganfgaaW.PrintMore
theorem wakes1 : B.nackEnc 1 2 [5, 6, 21] = (⟨#[0, 0, 0, 1, 0, 0, 0, 2, 0, 5, 128, 1]⟩, 0) := by decide +kernel
theorem wakes2 : B.nackDec ⟨#[0, 0, 0, 1, 0, 0, 0, 2, 0, 5, 128, 1]⟩ = (1, 2, [5, 6, 21], 0) := by decide +kernel
theorem wakes : flywheellaw11_wakes.f = some true := by
  unfold flywheellaw11_wakes.f nack_Encode.f nack_Decode.f
  simp only [wakes1]
  rw [if_pos (by omega), if_pos (by omega), if_pos (by omega), if_pos (by omega)]
  simp only [Option.bind_some]
  rw [if_pos (by decide)]
  simp only [wakes2, Option.bind_some]
  decide +kernel
theorem w_suc (n : Nat) (h : n ≤ 1000000000000000) : wrap64 ((n : Int) + 1) = ((n + 1 : Nat) : Int) := by unfold wrap64; omega
theorem ints_refl (l : List Int) (hl : l.length ≤ 4000000000000) : ∀ (d k i : Nat), i + d = l.length → d < k → flywheelkeep_Ints.l0 k l l (i : Int) = some true := by
  intro d
  induction d with
  | zero =>
    intro k i hi hk
    obtain ⟨k, rfl⟩ : ∃ m, k = m + 1 := ⟨k - 1, by omega⟩
    simp only [flywheelkeep_Ints.l0]
    rw [if_neg (by omega)]
  | succ d ih =>
    intro k i hi hk
    obtain ⟨k, rfl⟩ : ∃ m, k = m + 1 := ⟨k - 1, by omega⟩
    simp only [flywheelkeep_Ints.l0]
    rw [if_pos (by omega), if_pos (by omega), if_pos (by omega), w_suc i (by omega)]
    simp only [if_true]
    exact ih k (i + 1) (by omega) (by omega)
theorem ints_same (l : List Int) (hl : l.length ≤ 4000000000000) (k : Nat) (hk : l.length < k) : flywheelkeep_Ints.f k l l = some true := by
  unfold flywheelkeep_Ints.f
  rw [if_pos rfl]
  exact ints_refl l hl l.length k 0 (by omega) hk
theorem u16_wf (z : Int) (h : (Lit.int .u16 z).wf = true) : 0 ≤ z ∧ z < 65536 := by
  simp only [Lit.wf, Bool.and_eq_true, decide_eq_true_eq] at h
  have e1 : IntKind.u16.min = 0 := rfl
  have e2 : IntKind.u16.max = 65535 := rfl
  omega
theorem u_nat (n : Nat) (h : n ≤ 1000000000000000) : IntKind.u64.wrap (n : Int) = (n : Int) := by rw [IntKind.wrap_u64]; omega
theorem and_one_u16 (m i : Nat) (hm : m < 65536) (hi : i < 16) : Go.bits .and .u16 (shr .u16 (m : Int) (i : Int)) 1 = if m.testBit i = true then 1 else 0 := by
  unfold shr
  rw [Int.toNat_natCast, Nat.min_eq_left (show i ≤ IntKind.u16.bits from by show i ≤ 16; omega)]
  have e : ((m : Int) / 2 ^ i) = ((m / 2 ^ i : Nat) : Int) := by rw [Int.natCast_ediv, Int.natCast_pow]; rfl
  have hlt : m / 2 ^ i < 65536 := Nat.lt_of_le_of_lt (Nat.div_le_self _ _) hm
  have e8 : ∀ z : Nat, z < 65536 → (BitVec.ofInt 16 (z : Int)).toNat = z := fun z hz => by rw [BitVec.ofInt_natCast, BitVec.toNat_ofNat]; exact Nat.mod_eq_of_lt (by omega)
  rw [e]
  show IntKind.u16.wrap ((BitVec.ofInt 16 ((m / 2 ^ i : Nat) : Int) &&& BitVec.ofInt 16 ((1 : Nat) : Int)).toNat : Int) = _
  rw [BitVec.toNat_and, e8 _ hlt, e8 1 (by omega), Nat.and_one_is_mod, IntKind.wrap_u16, Nat.testBit_eq_decide_div_mod_eq]
  rcases Nat.mod_two_eq_zero_or_one (m / 2 ^ i) with h | h <;> simp [h]
theorem w_num (f i : Nat) : wrap64 (IntKind.u16.wrap ((IntKind.u16.wrap ((f : Int) + (IntKind.u16.wrap (i : Int)))) + 1)) = (((f + i + 1) % 65536 : Nat) : Int) := by
  rw [IntKind.wrap_u16, IntKind.wrap_u16, IntKind.wrap_u16]; unfold wrap64; omega
theorem masks_step (x5 : ByteArray) (f m i k : Nat) (hm : m < 65536) (hi : i < 16) (e a b : Int) (l : List Int) :
    flywheellaw11_NackMasks.l0 (k + 1) (f : Int) (m : Int) x5 e (B.lostPart f m i) (i : Int) a b l = flywheellaw11_NackMasks.l0 k (f : Int) (m : Int) x5 e (B.lostPart f m (i + 1)) ((i + 1 : Nat) : Int) a b l := by
  have hl := B.lostPart_length f m i
  simp only [flywheellaw11_NackMasks.l0]
  rw [u_nat i (by omega), and_one_u16 m i hm hi, w_num f i, w_suc i (by omega), if_pos (by omega), if_pos (by omega)]
  by_cases hb : m.testBit i = true
  · rw [if_pos hb, if_pos rfl, if_pos (by omega), B.lostPart_yes f m i hb]
  · rw [if_neg hb, if_neg (by decide), B.lostPart_no f m i (by simpa using hb)]
theorem masks_l0 (x5 : ByteArray) (f m : Nat) (hm : m < 65536) (e a b : Int) (l : List Int) : ∀ (d k i : Nat), i + d = 16 →
    flywheellaw11_NackMasks.l0 (k + d) (f : Int) (m : Int) x5 e (B.lostPart f m i) (i : Int) a b l = flywheellaw11_NackMasks.l0 k (f : Int) (m : Int) x5 e (B.lostPart f m 16) 16 a b l := by
  intro d
  induction d with
  | zero =>
    intro k i hi
    obtain rfl : i = 16 := by omega
    rfl
  | succ d ih =>
    intro k i hi
    rw [show k + (d + 1) = (k + d) + 1 by omega, masks_step x5 f m i _ hm (by omega)]
    exact ih k (i + 1) (by omega)
theorem NackMasks : flywheellaw11_NackMasks.Pure := by
  intro a0 a1 w0 w1
  have b0 := u16_wf _ w0
  have b1 := u16_wf _ w1
  obtain ⟨f, rfl⟩ : ∃ n : Nat, a0 = (n : Int) := ⟨a0.toNat, by omega⟩
  obtain ⟨m, rfl⟩ : ∃ n : Nat, a1 = (n : Int) := ⟨a1.toNat, by omega⟩
  have hf : f < 65536 := by omega
  have hm : m < 65536 := by omega
  obtain ⟨s, L, hL, hll, hsz, hb, hdec, henc⟩ := B.mask_all f m hf hm
  refine ⟨101 + 16, ?_⟩
  unfold flywheellaw11_NackMasks.f
  rw [Option.bind_some]
  rw [hb]
  have hd : nack_Decode.f s = some (1, 2, L, 0) := by
    unfold nack_Decode.f
    rw [if_pos (by omega), hdec]
  rw [hd]
  rw [Option.bind_some]
  dsimp only
  rw [show ([wrap64 (f : Int)] : List Int) = B.lostPart f m 0 from by rw [B.lostPart_zero]; congr 1; unfold wrap64; omega]
  have h := masks_l0 s f m hm 0 1 2 L 16 101 0 rfl
  refine h.trans ?_
  rw [hL]
  clear h hL hb
  obtain ⟨K, hK⟩ : ∃ K, 100 = K := ⟨_, rfl⟩
  rw [show 101 = K + 1 by omega]
  simp only [flywheellaw11_NackMasks.l0]
  rw [if_neg (by decide)]
  have hfew : flywheellaw11_few.f 1 2 L = some (1, 2, L) := by
    unfold flywheellaw11_few.f
    rw [Option.bind_some, List.nil_append, List.length_nil, Nat.zero_add, if_pos (by omega)]
  have henc' : nack_Encode.f 1 2 L = some (s, 0) := by
    unfold nack_Encode.f
    rw [if_pos (by decide), if_pos (by decide), if_pos (by decide), if_pos (by decide), henc]
  rw [hfew]
  rw [Option.bind_some]
  dsimp only
  rw [henc']
  rw [Option.bind_some]
  dsimp only
  simp only [if_true]
  rw [ints_same _ (by omega) _ (by omega)]
  rw [Option.bind_some]
  simp only [if_true]
  rw [wakes]
  rfl
end Go.Proofs.Ytnllbldfganfgaa.Pure
