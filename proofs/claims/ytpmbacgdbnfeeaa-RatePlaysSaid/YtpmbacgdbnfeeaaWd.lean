import Derived.Test.YtpmbacgdbnfeeaaProg
import Derived.Below
import Derived.Deep.Draws
import Derived.Deep.AppendLies
import Derived.Maps.AppendAt
import Derived.OwnWalk
import Derived.Laws.BytesArg
import Derived.Laws.MakeOwn
import Derived.Laws.OwnMore
import Derived.Deep.OwnRows
import Derived.Tactics
import Derived.Lib.ConvBytes
import Derived.Laws.Slices
import Derived.WalkKit
import Derived.KernelRfl
import Derived.RowKit3
import Derived.Deep.LoopGhost
import Derived.Deep.QuietTactic
import Derived.BigQuiet
import Derived.WideLaws
import Derived.Deep.DeepCutAuto
import Derived.Deep.CutBlock
import Derived.Deep.RegionHeld3
import Derived.Laws.Rows
import Derived.Lib.AppendStr
import Derived.ArgAppend
import Derived.Laws.IdiomCopy
import Derived.OrdersHeld
import Derived.Laws.BitsLemmas
import Derived.RowKit
import Derived.Test.YtpmbacgdbnfeeaaWWords
import Derived.Test.YtpmbacgdbnfeeaaWLast
import Derived.Test.YtpmbacgdbnfeeaaWTab
import Derived.Test.YtpmbacgdbnfeeaaWFour
import Derived.Test.YtpmbacgdbnfeeaaWQPut
import Derived.Test.YtpmbacgdbnfeeaaWApart
import Derived.Test.YtpmbacgdbnfeeaaWArr
import Derived.Test.YtpmbacgdbnfeeaaWZeros
import Derived.Test.YtpmbacgdbnfeeaaWFoot
import Derived.Test.YtpmbacgdbnfeeaaWKept
import Derived.Test.YtpmbacgdbnfeeaaWShare
import Derived.Test.YtpmbacgdbnfeeaaWN
import Derived.Test.YtpmbacgdbnfeeaaWFootNe
import Derived.Test.YtpmbacgdbnfeeaaWAt
import Derived.Test.YtpmbacgdbnfeeaaWEqStruct
import Derived.Test.YtpmbacgdbnfeeaaWRepsOne
import Derived.Test.YtpmbacgdbnfeeaaWInv
import Derived.Test.YtpmbacgdbnfeeaaWInvWords
import Derived.Test.YtpmbacgdbnfeeaaWGuard
import Derived.Test.YtpmbacgdbnfeeaaWNEv
import Derived.Test.YtpmbacgdbnfeeaaWMore
import Derived.BigRegion
import Derived.WalkMore
import Derived.ScopeJumps
import Derived.Outline
import Derived.Laws.Externs
namespace Go.Proofs.Ytpmbacgdbnfeeaa.B
open Go.RowKit Go.Proofs.YtpmbacgdbnfeeaaW.PrintWords Go.Proofs.YtpmbacgdbnfeeaaW.PrintLast Go.Proofs.YtpmbacgdbnfeeaaW.PrintMore
set_option linter.unusedVariables false
set_option linter.unusedSimpArgs false
/-- The halves of a number of 128 bits. -/
def hi64 (n : Int) : Int := n / 18446744073709551616 % 18446744073709551616
def lo64 (n : Int) : Int := n % 18446744073709551616
/-- A number, held to 64 bits. -/
def hold (n : Int) : Int := if n < -9223372036854775808 then -9223372036854775808 else if 9223372036854775807 < n then 9223372036854775807 else n
theorem hold_lo {n : Int} (h : n < -9223372036854775808) : hold n = -9223372036854775808 := if_pos h
theorem hold_hi {n : Int} (h : 9223372036854775807 < n) : hold n = 9223372036854775807 := by unfold hold; rw [if_neg (by omega), if_pos h]
theorem hold_in {n : Int} (h : -9223372036854775808 ≤ n) (h' : n ≤ 9223372036854775807) : hold n = n := by unfold hold; rw [if_neg (by omega), if_neg (by omega)]
theorem hold_range (n : Int) : -9223372036854775808 ≤ hold n ∧ hold n ≤ 9223372036854775807 := by unfold hold; split; omega; split <;> omega
theorem ret_int {k : IntKind} {a b : Int} (h : a = b) : Ending.returned (.int k a) = .returned (.int k b) := by rw [h]
def Wide (n : Int) : Prop := -170141183460469231731687303715884105728 ≤ n ∧ n < 170141183460469231731687303715884105728
theorem held_word (n : Int) : ∃ q l : Int, n = q * 18446744073709551616 + l ∧ 0 ≤ l ∧ l < 18446744073709551616 ∧ lo64 n = l ∧ hi64 n = q % 18446744073709551616 ∧
    ((l < 9223372036854775808 ∧ wrap64 l = l ∧ IntKind.u64.wrap (wrap64 l / 9223372036854775808) = 0) ∨ (9223372036854775808 ≤ l ∧ wrap64 l = l - 18446744073709551616 ∧ IntKind.u64.wrap (wrap64 l / 9223372036854775808) = 18446744073709551615)) := by
  have l0 : 0 ≤ n % 18446744073709551616 := by omega
  have l1 : n % 18446744073709551616 < 18446744073709551616 := by omega
  refine ⟨n / 18446744073709551616, n % 18446744073709551616, by omega, l0, l1, rfl, rfl, ?_⟩
  generalize n % 18446744073709551616 = l at *
  rw [IntKind.wrap_u64]
  by_cases c : l < 9223372036854775808
  · have w : wrap64 l = l := by unfold wrap64; omega
    exact .inl ⟨c, w, by rw [w]; omega⟩
  · have w : wrap64 l = l - 18446744073709551616 := by unfold wrap64; omega
    exact .inr ⟨by omega, w, by rw [w]; omega⟩
theorem held_same {n : Int} (hn : Wide n) (h : (IntKind.u64.wrap (wrap64 (lo64 n) / 9223372036854775808) == hi64 n) = true) : wrap64 (lo64 n) = hold n := by
  unfold Wide at hn
  have h := eq_of_beq h
  obtain ⟨q, l, e, l0, l1, el, eh, ⟨c, w, k⟩ | ⟨c, w, k⟩⟩ := held_word n
  · rw [el] at h ⊢
    rw [k, eh] at h
    rw [w, hold_in] <;> omega
  · rw [el] at h ⊢
    rw [k, eh] at h
    rw [w, hold_in] <;> omega
theorem held_not {n : Int} (hn : Wide n) (h : (IntKind.u64.wrap (wrap64 (lo64 n) / 9223372036854775808) == hi64 n) = false) : n < -9223372036854775808 ∨ 9223372036854775807 < n := by
  unfold Wide at hn
  have h := ne_of_beq_false h
  obtain ⟨q, l, e, l0, l1, el, eh, ⟨c, w, k⟩ | ⟨c, w, k⟩⟩ := held_word n
  · rw [el, k, eh] at h
    omega
  · rw [el, k, eh] at h
    omega
theorem held_sign {n : Int} (hn : Wide n) : wrap64 (hi64 n) < 0 ↔ n < 0 := by
  unfold Wide at hn
  unfold wrap64 hi64
  omega
set_option maxHeartbeats 400000 in
theorem held_any (n : Int) (hn : Wide n) (w : World) : Calls Try.prog 32 #[.agg #[.int .u64 (hi64 n), .int .u64 (lo64 n)]] w fun e w' => e = .returned (.int .i64 (hold n)) ∧ Below w.heap.size w w' := by
  obtain ⟨h, hh⟩ : ∃ h, h = hi64 n := ⟨_, rfl⟩
  obtain ⟨l, hl⟩ : ∃ l, l = lo64 n := ⟨_, rfl⟩
  have HH := Aside0.mk hh
  have HL := Aside0.mk hl
  have HN := Aside0.mk hn
  rw [← hh, ← hl]
  clear hh hl hn
  go_enter Try.func32, Try.ntmps32
  go_wp2
  · have k : (IntKind.u64.wrap (wrap64 l / 9223372036854775808) == h) = true := by assumption
    go_ret
    have hh := HH.out
    have hl := HL.out
    subst hh hl
    exact ⟨ret_int (held_same HN.out k), (Below.refl _ _).alloc (Nat.le_refl _) _⟩
  · have k : (IntKind.u64.wrap (wrap64 l / 9223372036854775808) == h) = false := by assumption
    have k2 : wrap64 h < 0 := by assumption
    go_ret
    have hh := HH.out
    have hl := HL.out
    subst hh hl
    have := held_not HN.out k
    rw [held_sign HN.out] at k2
    exact ⟨ret_int (hold_lo (by omega)).symm, (Below.refl _ _).alloc (Nat.le_refl _) _⟩
  · have k : (IntKind.u64.wrap (wrap64 l / 9223372036854775808) == h) = false := by assumption
    have k2 : 0 ≤ wrap64 h := by assumption
    go_ret
    have hh := HH.out
    have hl := HL.out
    subst hh hl
    have := held_not HN.out k
    have k3 : ¬ wrap64 (hi64 n) < 0 := by omega
    rw [held_sign HN.out] at k3
    exact ⟨ret_int (hold_hi (by omega)).symm, (Below.refl _ _).alloc (Nat.le_refl _) _⟩
/-- The model's entry for math/bits.Sub64, in the row's own words. -/
def sub64Entry : Array Value → Sem Value := fun args => do
  let (x, y, b) ← Extern.MathBitsCarry.three "Sub64" args
  pure (Extern.MathBitsCarry.pair ((x + Extern.MathBitsCarry.m64 - y - b) % Extern.MathBitsCarry.m64) (if x < y + b then 1 else 0))
theorem run_sub64 (x y b : Nat) (hb : b ≤ 1) (w : World) :
    (sub64Entry #[.int .u64 x, .int .u64 y, .int .u64 b]).run Try.prog w =
      .ok (.tuple #[.int .u64 (((x + 18446744073709551616 - y - b) % 18446744073709551616 : Nat) : Int), .int .u64 ((if x < y + b then 1 else 0 : Nat) : Int)]) w := by
  have : b = 0 ∨ b = 1 := by omega
  rcases this with rfl | rfl <;> rfl
theorem sub64_run {x y b d c : Int} (hx : 0 ≤ x) (hy : 0 ≤ y) (hy1 : y < 18446744073709551616) (hb0 : 0 ≤ b) (hb : b ≤ 1) (hd : d = (x - y - b) % 18446744073709551616) (hc : c = if x < y + b then 1 else 0) (w : World) :
    (callFunc 38 #[.int .u64 x, .int .u64 y, .int .u64 b]).run Try.prog w = .ok (.value (.tuple #[.int .u64 d, .int .u64 c])) w := by
  obtain ⟨X, rfl⟩ := Int.eq_ofNat_of_zero_le hx
  obtain ⟨Y, rfl⟩ := Int.eq_ofNat_of_zero_le hy
  obtain ⟨C, rfl⟩ := Int.eq_ofNat_of_zero_le hb0
  rw [run_callFunc_extern Try.func38 (by kernel_rfl) (by kernel_rfl) (by kernel_rfl) (e := sub64Entry) (by kernel_rfl), run_sub64 X Y C (by omega)]
  simp only [Result.andThen]
  have e1 : (((X + 18446744073709551616 - Y - C) % 18446744073709551616 : Nat) : Int) = d := by omega
  have e2 : ((if X < Y + C then 1 else 0 : Nat) : Int) = c := by rw [hc]; split <;> split <;> omega
  rw [e1, e2]
theorem add64_run {x y c d k : Int} (hx : 0 ≤ x) (hy : 0 ≤ y) (hc0 : 0 ≤ c) (hc : c ≤ 1) (hd : d = (x + y + c) % 18446744073709551616) (hk : k = (x + y + c) / 18446744073709551616) (w : World) :
    (callFunc 37 #[.int .u64 x, .int .u64 y, .int .u64 c]).run Try.prog w = .ok (.value (.tuple #[.int .u64 d, .int .u64 k])) w := by
  rw [run_callFunc_extern Try.func37 (by kernel_rfl) (by kernel_rfl) (by kernel_rfl) (e := add64Entry) (by kernel_rfl), run_add64 x y c hx hy hc0 hc, hd, hk]
  rfl
set_option maxHeartbeats 400000 in
theorem negative_any (a : Int) (h0 : -9223372036854775808 ≤ a) (h1 : a ≤ 9223372036854775807) (w : World) : Calls Try.prog 34 #[.int .i64 a] w fun e w' => e = .returned (.agg #[.int .u64 (hi64 (-a)), .int .u64 (lo64 (-a))]) ∧ Below w.heap.size w w' := by
  obtain ⟨b, hb⟩ : ∃ b : Int, b = if 0 < a % 18446744073709551616 then 1 else 0 := ⟨_, rfl⟩
  obtain ⟨b2, hb2⟩ : ∃ c : Int, c = if 0 < IntKind.u64.wrap (a / 9223372036854775808) + b then 1 else 0 := ⟨_, rfl⟩
  have hb0 : 0 ≤ b ∧ b ≤ 1 := by rw [hb]; split <;> omega
  have w1 := IntKind.wrap_u64 a
  have w2 := IntKind.wrap_u64 (a / 9223372036854775808)
  have s1 := fun w => sub64_run (x := 0) (y := IntKind.u64.wrap a) (b := 0) (d := lo64 (-a)) (c := b) (by omega) (by omega) (by omega) (by omega) (by omega) (by unfold lo64; omega) (by rw [hb, w1]; simp) w
  have s2 := fun w => sub64_run (x := 0) (y := IntKind.u64.wrap (a / 9223372036854775808)) (b := b) (d := hi64 (-a)) (c := b2) (by omega) (by omega) (by omega) (by omega) (by omega) (by unfold hi64; rw [w2]; split at hb <;> omega) hb2 w
  clear w1 w2 hb hb2 hb0
  generalize hi64 (-a) = H at *
  generalize lo64 (-a) = L at *
  go_enter Try.func34, Try.ntmps34
  go_wp2
  refine bodyPost_ret (v := .agg #[.int .u64 H, .int .u64 L]) (by simp [results, Try.results34, go_sem]) rfl ⟨rfl, ?_⟩
  exact (Below.refl _ _).alloc (Nat.le_refl _) _
end Go.Proofs.Ytpmbacgdbnfeeaa.B
