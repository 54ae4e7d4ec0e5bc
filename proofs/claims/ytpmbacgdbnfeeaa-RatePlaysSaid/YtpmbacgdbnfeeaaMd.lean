/-
  Long division by digits of 32 bits, and division bit by bit. Plain laws, no program.
-/
namespace Go.Proofs.Ytpmbacgdbnfeeaa.B
theorem digit_stop {y N q1 yn1 yn0 r u u1 : Nat} (hy : y = yn1 * 4294967296 + yn0) (hN : N = u * 4294967296 + u1) (h : q1 * yn1 + r = u) (hs : q1 * yn0 ≤ 4294967296 * r + u1) : q1 * y ≤ N := by
  subst hy hN h
  rw [Nat.mul_add, ← Nat.mul_assoc, Nat.add_mul]
  generalize q1 * yn1 = a at *
  omega
theorem digit_go {y N q1 yn1 yn0 r u u1 : Nat} (hy : y = yn1 * 4294967296 + yn0) (hN : N = u * 4294967296 + u1) (h : q1 * yn1 + r = u) (hs : 4294967296 * r + u1 < q1 * yn0) : N < q1 * y := by
  subst hy hN h
  rw [Nat.mul_add, ← Nat.mul_assoc, Nat.add_mul]
  generalize q1 * yn1 = a at *
  omega
/-- The digit that is guessed is at most two too great. -/
theorem digit_guess {y u yn1 yn0 : Nat} (hy : y = yn1 * 4294967296 + yn0) (h0 : yn0 < 4294967296) (h1 : 2147483648 ≤ yn1) (h2 : yn1 < 4294967296) (hu : u < y) : u / yn1 ≤ 4294967297 := by
  have : u / yn1 < 4294967298 := by
    rw [Nat.div_lt_iff_lt_mul (by omega)]
    omega
  omega
theorem digit_prod {q1 yn0 : Nat} (h : q1 ≤ 4294967297) (h0 : yn0 < 4294967296) : q1 * yn0 < 18446744073709551616 := by
  have : q1 * yn0 ≤ 4294967297 * 4294967295 := Nat.mul_le_mul h (by omega)
  omega
/-- What a guess must keep: it is not below the digit, and with what is left it makes up the upper part. -/
structure Guess (y N yn1 u q1 r : Nat) : Prop where
  sum : q1 * yn1 + r = u
  up : N / y ≤ q1
  few : q1 ≤ 4294967297
theorem Guess.less {y N yn1 yn0 u u1 q1 r : Nat} (hy : y = yn1 * 4294967296 + yn0) (hN : N = u * 4294967296 + u1) (hy0 : 0 < y) (hq : N / y < 4294967296)
    (g : Guess y N yn1 u q1 r) (hs : 4294967296 ≤ q1 ∨ 4294967296 * r + u1 < q1 * yn0) : 0 < q1 ∧ Guess y N yn1 u (q1 - 1) (r + yn1) := by
  have hlt : N / y < q1 := by
    rcases hs with hs | hs
    · omega
    · have := digit_go hy hN g.sum hs
      rwa [Nat.div_lt_iff_lt_mul hy0]
  have g1 := g.sum
  have g2 := g.few
  generalize hG : N / y = d at *
  refine ⟨by omega, ?_, by omega, by omega⟩
  have := g1
  obtain ⟨q, rfl⟩ : ∃ q, q1 = q + 1 := ⟨q1 - 1, by omega⟩
  rw [Nat.add_mul] at this
  simp
  omega
theorem Guess.ends {y N yn1 yn0 u u1 q1 r : Nat} (hy : y = yn1 * 4294967296 + yn0) (hN : N = u * 4294967296 + u1) (hy0 : 0 < y) (g : Guess y N yn1 u q1 r) (hs : q1 * yn0 ≤ 4294967296 * r + u1) : q1 = N / y := by
  have h1 := digit_stop hy hN g.sum hs
  have h2 : q1 ≤ N / y := (Nat.le_div_iff_mul_le hy0).2 h1
  have := g.up
  omega
theorem Guess.far {y N yn1 yn0 u u1 q1 r : Nat} (hy : y = yn1 * 4294967296 + yn0) (hN : N = u * 4294967296 + u1) (h0 : yn0 < 4294967296) (hy0 : 0 < y) (g : Guess y N yn1 u q1 r) (hs : 4294967296 ≤ r) : q1 = N / y := by
  refine g.ends hy hN hy0 ?_
  have : q1 * yn0 ≤ 4294967297 * 4294967295 := Nat.mul_le_mul g.few (by omega)
  omega
theorem Guess.first {y N yn1 yn0 u u1 : Nat} (hy : y = yn1 * 4294967296 + yn0) (hN : N = u * 4294967296 + u1) (h0 : yn0 < 4294967296) (h1 : 2147483648 ≤ yn1) (h2 : yn1 < 4294967296) (hu : u < y) (hu1 : u1 < 4294967296) :
    Guess y N yn1 u (u / yn1) (u % yn1) := by
  refine ⟨by rw [Nat.mul_comm]; exact Nat.div_add_mod _ _, ?_, digit_guess hy h0 h1 h2 hu⟩
  have hd := Nat.div_add_mod u yn1
  have hm := Nat.mod_lt u (show 0 < yn1 by omega)
  have : N / y < u / yn1 + 1 := by
    rw [Nat.div_lt_iff_lt_mul (by omega), hy, hN, Nat.mul_add, ← Nat.mul_assoc, Nat.add_mul, Nat.mul_comm (u / yn1)]
    generalize yn1 * (u / yn1) = a at *
    rw [Nat.add_mul]
    omega
  omega
theorem digit_lt {y N u u1 : Nat} (hN : N = u * 4294967296 + u1) (hu : u < y) (hu1 : u1 < 4294967296) : N / y < 4294967296 := by
  rw [Nat.div_lt_iff_lt_mul (by omega)]
  omega
/-- Two digits one behind the other. -/
theorem two_digits_aux {y D Z u0 q1 r1 q0 : Nat} (hy0 : 0 < y) (hd : y * q1 + r1 = D) (h0 : q0 = (r1 * Z + u0) / y) :
    q1 * Z + q0 = (D * Z + u0) / y ∧ (r1 * Z + u0) % y = (D * Z + u0) % y := by
  have e : D * Z + u0 = (r1 * Z + u0) + y * (q1 * Z) := by
    rw [← hd, Nat.add_mul, Nat.mul_assoc]
    omega
  rw [e]
  clear e hd
  subst h0
  generalize q1 * Z = K
  generalize r1 * Z + u0 = A
  exact ⟨by rw [Nat.add_mul_div_left _ _ hy0]; omega, (Nat.add_mul_mod_self_left _ _ _).symm⟩
theorem two_digits {y u u1 u0 q1 r1 q0 : Nat} (hy0 : 0 < y) (h1 : q1 = (u * 4294967296 + u1) / y) (hr : r1 = (u * 4294967296 + u1) % y) (h0 : q0 = (r1 * 4294967296 + u0) / y) :
    q1 * 4294967296 + q0 = ((u * 4294967296 + u1) * 4294967296 + u0) / y ∧ (r1 * 4294967296 + u0) % y = ((u * 4294967296 + u1) * 4294967296 + u0) % y :=
  two_digits_aux hy0 (by rw [h1, hr]; exact Nat.div_add_mod _ _) h0
/-- One bit more. -/
theorem bit_div {P c b : Nat} (hc : 0 < c) (hb : b ≤ 1) : (2 * P + b) / c = 2 * (P / c) + (if c ≤ 2 * (P % c) + b then 1 else 0) ∧ (2 * P + b) % c = (if c ≤ 2 * (P % c) + b then 2 * (P % c) + b - c else 2 * (P % c) + b) := by
  have hd := Nat.div_add_mod P c
  have hm := Nat.mod_lt P hc
  have e : 2 * P + b = (2 * (P % c) + b) + c * (2 * (P / c)) := by
    have : c * (2 * (P / c)) = 2 * (c * (P / c)) := by rw [Nat.mul_left_comm]
    omega
  rw [e, Nat.add_mul_div_left _ _ hc, Nat.add_mul_mod_self_left]
  generalize P % c = r at *
  by_cases h : c ≤ 2 * r + b
  · rw [if_pos h, if_pos h]
    have e2 : 2 * r + b = (2 * r + b - c) + c * 1 := by omega
    rw [e2, Nat.add_mul_div_left _ _ hc, Nat.add_mul_mod_self_left, Nat.div_eq_of_lt (by omega), Nat.mod_eq_of_lt (by omega)]
    omega
  · rw [if_neg h, if_neg h, Nat.div_eq_of_lt (by omega), Nat.mod_eq_of_lt (by omega)]
    omega
end Go.Proofs.Ytpmbacgdbnfeeaa.B
