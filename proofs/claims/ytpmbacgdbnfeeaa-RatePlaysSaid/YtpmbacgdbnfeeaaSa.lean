import Derived.Test.YtpmbacgdbnfeeaaWd
namespace Go.Proofs.Ytpmbacgdbnfeeaa.B
open Go.RowKit Go.Proofs.YtpmbacgdbnfeeaaW.PrintWords Go.Proofs.YtpmbacgdbnfeeaaW.PrintLast Go.Proofs.YtpmbacgdbnfeeaaW.PrintMore
set_option linter.unusedVariables false
set_option linter.unusedSimpArgs false
def I64 (a : Int) : Prop := -9223372036854775808 ≤ a ∧ a ≤ 9223372036854775807
instance (a : Int) : Decidable (I64 a) := inferInstanceAs (Decidable (_ ∧ _))
def sumL (l : List Int) : Int := l.foldl (· + ·) 0
theorem sumL_nil : sumL [] = 0 := rfl
theorem sumL_snoc (l : List Int) (a : Int) : sumL (l ++ [a]) = sumL l + a := by simp [sumL]
theorem sumL_one (a : Int) : sumL [a] = a := by simp [sumL]
theorem sumL_two (a b : Int) : sumL [a, b] = a + b := by simp [sumL]
def PlusRel (w : World) (N : Int) (xs : List Int) (v : Value) (wr : World) : Prop :=
  ∃ k : Nat, k ≤ xs.length ∧ v = .int .i64 k ∧ wr = (w.alloc (.cells #[.int .u64 (hi64 (N + sumL (xs.take k))), .int .u64 (lo64 (N + sumL (xs.take k)))] 63)).alloc (.cells #[.int .u64 0, .int .u64 0] 63)
theorem plus_step (M n : Int) (hn : I64 n) : ∃ k k2 : Int, 0 ≤ k ∧ k ≤ 1 ∧ k = (lo64 M + IntKind.u64.wrap n + 0) / 18446744073709551616 ∧ lo64 (M + n) = (lo64 M + IntKind.u64.wrap n + 0) % 18446744073709551616 ∧
    hi64 (M + n) = (hi64 M + IntKind.u64.wrap (n / 9223372036854775808) + k) % 18446744073709551616 ∧ k2 = (hi64 M + IntKind.u64.wrap (n / 9223372036854775808) + k) / 18446744073709551616 := by
  refine ⟨_, _, ?_, ?_, rfl, ?_, ?_, rfl⟩ <;> (unfold I64 at hn; rw [IntKind.wrap_u64]; try rw [IntKind.wrap_u64]) <;> (try unfold lo64) <;> (try unfold hi64)
  · omega
  · omega
  · omega
  · have e : n / 9223372036854775808 = 0 ∨ n / 9223372036854775808 = -1 := by omega
    rcases e with e | e <;> rw [e] <;> omega
set_option maxHeartbeats 1000000 in
theorem plus_any (N : Int) (b : Nat) (xs : List Int) (w : World) (hl : xs.length ≤ 1000000) (hx : ∀ i, i < xs.length → I64 (xs.getD i 0)) (hc : ∀ i, i < xs.length → w.cell? ⟨b, i, none⟩ = some (.int .i64 (xs.getD i 0))) :
    Calls Try.prog 33 #[.agg #[.int .u64 (hi64 N), .int .u64 (lo64 N)], .slice (some ⟨b, 0, none⟩) xs.length xs.length] w fun e w' => e = .returned (.agg #[.int .u64 (hi64 (N + sumL xs)), .int .u64 (lo64 (N + sumL xs))]) ∧ Below w.heap.size w w' := by
  have HC := Aside0.mk hc
  have HX := Aside0.mk hx
  clear hc hx
  go_enter Try.func33, Try.ntmps33
  go_wp2
  go_loopw [13] (fun v wr => PlusRel w N xs v wr) (fun v _ => xs.length - (intOf v).toNat)
  case atStart => exact ⟨0, by omega, rfl, by simp [sumL]⟩
  case round =>
    obtain ⟨k, hk, rfl, rfl⟩ := hrel
    by_cases hlt : k < xs.length
    · have hcc := HC.out k hlt
      have hxx := HX.out k hlt
      have hb : b < w.heap.size := World.block_lt_of_cell? w _ hcc
      have hts : xs.take (k + 1) = xs.take k ++ [xs.getD k 0] := by
        rw [List.take_succ_eq_append_getElem hlt]; simp [List.getD_eq_getElem?_getD, List.getElem?_eq_getElem hlt]
      have HS : Aside0 (N + sumL (xs.take (k + 1)) = N + sumL (xs.take k) + xs.getD k 0) := ⟨by rw [hts, sumL_snoc]; omega⟩
      clear hts
      generalize N + sumL (xs.take k) = M at *
      generalize xs.getD k 0 = n at *
      obtain ⟨c, c2, hc0, hc1, e1, e2, e3, e4⟩ := plus_step M n hxx
      have a1 := fun w => add64_run (x := lo64 M) (y := IntKind.u64.wrap n) (c := 0) (by unfold lo64; omega) (by rw [IntKind.wrap_u64]; omega) (by omega) (by omega) e2 e1 w
      have a2 := fun w => add64_run (x := hi64 M) (y := IntKind.u64.wrap (n / 9223372036854775808)) (c := c) (by unfold hi64; omega) (by rw [IntKind.wrap_u64]; omega) hc0 hc1 e3 e4 w
      clear e1 e2 e3 e4 hc0 hc1
      have H1 : Aside0 (∃ H L, H = hi64 (M + n) ∧ L = lo64 (M + n)) := ⟨⟨_, _, rfl, rfl⟩⟩
      rw [← HS.out] at a1 a2
      generalize hH : hi64 (N + sumL (xs.take (k + 1))) = H at a1 a2
      generalize hL : lo64 (N + sumL (xs.take (k + 1))) = L at a1 a2
      have HH := Aside0.mk hH
      have HL := Aside0.mk hL
      clear hH hL H1
      go_wp2
      go_roundw
      case rel => exact ⟨k + 1, by omega, by go_num, by rw [HH.out, HL.out]⟩
      case measure => simp [intOf]; omega
    · have hk2 : k = xs.length := by omega
      subst hk2
      clear hlt
      rw [List.take_length]
      generalize hH : hi64 (N + sumL xs) = H at *
      generalize hL : lo64 (N + sumL xs) = L at *
      have HH := Aside0.mk hH
      have HL := Aside0.mk hL
      clear hH hL
      go_wp2
      refine bodyPost_ret (v := .agg #[.int .u64 H, .int .u64 L]) (by simp [results, Try.results33, go_sem]) rfl ⟨by rw [HH.out, HL.out], ?_⟩
      exact ((Below.refl _ _).alloc (Nat.le_refl _) _).alloc (by simp) _
set_option maxHeartbeats 400000 in
theorem sub_any (a b : Int) (ha : I64 a) (hb : I64 b) (w : World) : Calls Try.prog 29 #[.int .i64 a, .int .i64 b] w fun e w' => e = .returned (.int .i64 (hold (a - b))) ∧ Below w.heap.size w w' := by
  have HA := Aside0.mk ha
  have HB := Aside0.mk hb
  clear ha hb
  go_enter Try.func29, Try.ntmps29
  go_wp2_with fail
  refine (negative_any b (by have := HB.out; unfold I64 at this; omega) (by have := HB.out; unfold I64 at this; omega) _).mono ?_
  rintro e w1 ⟨rfl, hB1⟩
  go_wp2_with fail
  refine (plus_any (-b) w1.heap.size [a] _ (by simp) (fun i hi => ?_) (fun i hi => ?_)).mono ?_
  · obtain rfl : i = 0 := by simp at hi; omega
    exact HA.out
  · obtain rfl : i = 0 := by simp at hi; omega
    simp
  rw [sumL_one, show -b + a = a - b by omega]
  rintro e w2 ⟨rfl, hB2⟩
  go_wp2_with fail
  refine (held_any (a - b) (by have := HB.out; have := HA.out; unfold I64 Wide at *; omega) _).mono ?_
  rintro e w3 ⟨rfl, hB3⟩
  go_wp2
  go_ret
  exact ⟨rfl, ((hB1.alloc (by have := hB1.size; omega) _).trans (hB2.mono (by have := hB1.size; simp; omega))).trans (hB3.mono (by have := hB1.size; have := hB2.size; simp at this; omega))⟩
/-- A number's distance from 0. -/
def absI (a : Int) : Int := if a < 0 then -a else a
theorem absI_cases (a : Int) : (a < 0 ∧ absI a = -a) ∨ (0 ≤ a ∧ absI a = a) := by unfold absI; split <;> omega
theorem max_hold (a : Int) (ha : I64 a) : max a (hold (-a)) = hold (absI a) := by
  unfold absI
  unfold I64 at ha
  unfold hold
  (repeat' split) <;> omega
end Go.Proofs.Ytpmbacgdbnfeeaa.B
