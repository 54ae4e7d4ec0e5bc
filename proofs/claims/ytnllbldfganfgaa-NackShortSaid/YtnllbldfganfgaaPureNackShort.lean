/- What NackShort computes is true: numbers that stand together take one entry for each seventeen. For every first number and every count; no condition. -/
import Derived.Test.YtnllbldfganfgaaPNackShortx3
import Derived.Test.YtnllbldfganfgaaPn
namespace Go.Proofs.Ytnllbldfganfgaa.Pure
open Go.RowKit Go.Proofs.Ytnllbldfganfgaa.PNackShort Go.Proofs.YtnllbldfganfgaaW.PrintWords Go.Proofs.YtnllbldfganfgaaW.PrintLast Go.Proofs.YtnllbldfganfgaaW.PrintMore
theorem wakes1 : B.nackEnc 1 2 [5, 6, 21] = (⟨#[0, 0, 0, 1, 0, 0, 0, 2, 0, 5, 128, 1]⟩, 0) := by decide +kernel
theorem wakes2 : B.nackDec ⟨#[0, 0, 0, 1, 0, 0, 0, 2, 0, 5, 128, 1]⟩ = (1, 2, [5, 6, 21], 0) := by decide +kernel
theorem wakes : flywheellaw11_wakes.f = some true := by
  unfold flywheellaw11_wakes.f nack_Encode.f nack_Decode.f
  simp only [wakes1]
  rw [if_pos (by omega), if_pos (by omega), if_pos (by omega), if_pos (by omega)]
  simp only [Option.bind_some]
  rw [if_pos (by decide)]
  simp only [wakes2, Option.bind_some]
  decide +kernel
theorem u16_wf (z : Int) (h : (Lit.int .u16 z).wf = true) : 0 ≤ z ∧ z < 65536 := by
  simp only [Lit.wf, Bool.and_eq_true, decide_eq_true_eq] at h
  have e1 : IntKind.u16.min = 0 := rfl
  have e2 : IntKind.u16.max = 65535 := rfl
  omega
theorem u_nat (n : Nat) (h : n ≤ 1000000000000000) : IntKind.u64.wrap (n : Int) = (n : Int) := by rw [IntKind.wrap_u64]; omega
theorem w_suc (n : Nat) (h : n ≤ 1000000000000000) : wrap64 ((n : Int) + 1) = ((n + 1 : Nat) : Int) := by unfold wrap64; omega
theorem w_next (f i : Nat) : wrap64 (IntKind.u16.wrap ((f : Int) + (IntKind.u16.wrap (i : Int)))) = (((f + i) % 65536 : Nat) : Int) := by
  rw [IntKind.wrap_u16, IntKind.wrap_u16]; unfold wrap64; omega
theorem w_size (n : Nat) (hn : n ≤ 4096) : wrap64 (8 + wrap64 (4 * wrap64 (Int.tdiv (wrap64 ((n : Int) + 16)) 17))) = ((8 + 4 * ((n + 16) / 17) : Nat) : Int) := by
  rw [show wrap64 ((n : Int) + 16) = ((n + 16 : Nat) : Int) by unfold wrap64; omega, Int.tdiv_eq_ediv_of_nonneg (by omega)]
  unfold wrap64; omega
theorem short_l0 (f n : Nat) (hf : f < 65536) (h1 : 1 ≤ n) (h2 : n ≤ 4096) : ∀ (d k i : Nat), i + d = n → d < k → flywheellaw11_NackShort.l0 k (f : Int) (n : Int) (B.run f i) (i : Int) = some true := by
  intro d
  induction d with
  | zero =>
    intro k i hi hk
    obtain ⟨k, rfl⟩ : ∃ m, k = m + 1 := ⟨k - 1, by omega⟩
    obtain rfl : i = n := by omega
    have hg := B.goodB_run f i hf h1 h2
    have hr := B.ents_run i f i (Nat.le_refl _) hf h2
    obtain ⟨T, hT, hsz, _⟩ := B.enc_dec 0 0 (by decide) (by decide) (B.run f i) hg
    rw [hr] at hsz
    simp only [flywheellaw11_NackShort.l0]
    have henc : nack_Encode.f 0 0 (B.run f i) = some (T, 0) := by
      unfold nack_Encode.f
      rw [if_pos (by decide), if_pos (by decide), if_pos (by decide), if_pos (by decide)]
      exact congrArg some hT
    rw [if_neg (by omega), henc]
    rw [Option.bind_some]
    dsimp only
    rw [if_pos rfl, w_size i h2, hsz, if_pos rfl, wakes]
    rfl
  | succ d ih =>
    intro k i hi hk
    obtain ⟨k, rfl⟩ : ∃ m, k = m + 1 := ⟨k - 1, by omega⟩
    simp only [flywheellaw11_NackShort.l0]
    have hlen : (B.run f i).length = i := by simp [B.run]
    rw [if_pos (by omega), if_pos (by rw [hlen]; omega), w_next f i, w_suc i (by omega), ← B.run_succ]
    exact ih k (i + 1) (by omega) (by omega)
theorem w_count (z : Int) : ∃ n : Nat, 1 ≤ n ∧ n ≤ 4096 ∧ wrap64 (1 + wrap64 (Int.tmod (IntKind.u64.wrap z) 4096)) = (n : Int) := by
  rw [IntKind.wrap_u64, Int.tmod_eq_emod_of_nonneg (by omega)]
  refine ⟨(z % 18446744073709551616 % 4096).toNat + 1, by omega, by omega, ?_⟩
  unfold wrap64; omega
theorem NackShort : flywheellaw11_NackShort.Pure := by
  intro a0 a1 w0 _
  have b0 := u16_wf _ w0
  obtain ⟨f, rfl⟩ : ∃ n : Nat, a0 = (n : Int) := ⟨a0.toNat, by omega⟩
  obtain ⟨n, h1, h2, hn⟩ := w_count a1
  refine ⟨n + 1, ?_⟩
  unfold flywheellaw11_NackShort.f
  rw [hn]
  exact short_l0 f n (by omega) h1 h2 n (n + 1) 0 (by omega) (by omega)
end Go.Proofs.Ytnllbldfganfgaa.Pure
