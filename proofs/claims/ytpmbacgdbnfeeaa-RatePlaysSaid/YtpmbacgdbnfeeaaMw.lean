import Derived.Test.YtpmbacgdbnfeeaaSa
import Derived.Test.YtpmbacgdbnfeeaaMd
import Derived.Lib.BitFns
import Derived.Deep.Light
import Derived.Lib.Mul64
import Derived.Lib.Strings
import Derived.Lib.Slices
import Derived.Lib.Small
import Derived.Lib.Walk
import Derived.Laws.Bits64b
namespace Go.Proofs.Ytpmbacgdbnfeeaa.B
open Go.RowKit Go.Proofs.YtpmbacgdbnfeeaaW.PrintWords Go.Proofs.YtpmbacgdbnfeeaaW.PrintLast Go.Proofs.YtpmbacgdbnfeeaaW.PrintMore
set_option linter.unusedVariables false
set_option linter.unusedSimpArgs false
theorem maskN (a : Nat) (ha : a < 18446744073709551616) : bits .and .u64 (a : Int) 4294967295 = ((a % 4294967296 : Nat) : Int) := by
  have h := bits_and_u64_nat a 4294967295 ha (by omega)
  have e : a &&& 4294967295 = a % 4294967296 := Nat.and_two_pow_sub_one_eq_mod a 32
  rw [e] at h
  exact h
theorem divN (a : Nat) : (a : Int) / 4294967296 = ((a / 4294967296 : Nat) : Int) := by omega
theorem mulN (a b : Nat) : (a : Int) * (b : Int) = ((a * b : Nat) : Int) := (Int.natCast_mul a b).symm
theorem addN (a b : Nat) : (a : Int) + (b : Int) = ((a + b : Nat) : Int) := (Int.natCast_add a b).symm
theorem wrapN (a : Nat) (ha : a < 18446744073709551616) : IntKind.u64.wrap (a : Int) = (a : Int) := by rw [IntKind.wrap_u64]; omega
theorem wrapM (a : Nat) : IntKind.u64.wrap (a : Int) = ((a % 18446744073709551616 : Nat) : Int) := by rw [IntKind.wrap_u64]; omega
set_option maxHeartbeats 1000000 in
theorem mul64_any (x y : Nat) (hx : x < 18446744073709551616) (hy : y < 18446744073709551616) (w : World) :
    Calls Try.prog 39 #[.int .u64 x, .int .u64 y] w fun e w' => e = .returned (.tuple #[.int .u64 ((x * y / 18446744073709551616 : Nat) : Int), .int .u64 ((x * y % 18446744073709551616 : Nat) : Int)]) ∧ w' = w := by
  obtain ⟨bd, bt, bw, hhi⟩ := Lib.mul64_hi x y hx hy
  have ba := Lib.half_mul_le (a := x / 4294967296) (b := y / 4294967296) (by omega) (by omega)
  have bb := Lib.half_mul_le (a := x / 4294967296) (b := y % 4294967296) (by omega) (by omega)
  have bc := Lib.half_mul_le (a := x % 4294967296) (b := y / 4294967296) (by omega) (by omega)
  have ba' : x / 4294967296 * (y / 4294967296) < 18446744073709551616 := by omega
  have bb' : x / 4294967296 * (y % 4294967296) < 18446744073709551616 := by omega
  have bc' : x % 4294967296 * (y / 4294967296) < 18446744073709551616 := by omega
  have bh1 : x / 4294967296 * (y / 4294967296) + (x / 4294967296 * (y % 4294967296) + x % 4294967296 * (y % 4294967296) / 4294967296) / 4294967296 < 18446744073709551616 := by omega
  have bh : x / 4294967296 * (y / 4294967296) + (x / 4294967296 * (y % 4294967296) + x % 4294967296 * (y % 4294967296) / 4294967296) / 4294967296 + ((x / 4294967296 * (y % 4294967296) + x % 4294967296 * (y % 4294967296) / 4294967296) % 4294967296 + x % 4294967296 * (y / 4294967296)) / 4294967296 < 18446744073709551616 := by omega
  go_enter Try.func39, Try.ntmps39
  go_wp2
  simp only [maskN x hx, maskN y hy, divN, mulN, addN, wrapN _ bd, wrapN _ bb', wrapN _ bt, maskN _ bt, wrapN _ bc', wrapN _ bw, wrapN _ ba', wrapN _ bh1, wrapN _ bh, wrapM (x * y)]
  rw [hhi]
  go_ret2
  exact ⟨rfl, rfl⟩
set_option maxRecDepth 100000 in
theorem len8tab_size : (Lib.len8tab.size : Int) = 256 := by
  have : Lib.len8tab.size = 256 := by decide
  omega
theorem wrap_add (k a b : Nat) (hk : k ≤ 56) (ha : a ≤ 8) (hb : b = k + a) : RowKit.wrap64 ((k : Int) + RowKit.wrap64 (a : Int)) = (b : Int) := by
  unfold RowKit.wrap64
  omega
theorem wrap_wrap (a : Nat) (ha : a ≤ 8) : RowKit.wrap64 (RowKit.wrap64 (a : Int)) = (a : Int) := by
  unfold RowKit.wrap64
  omega
theorem wrap_one (a : Nat) (ha : a ≤ 8) : RowKit.wrap64 (a : Int) = (a : Int) := by
  unfold RowKit.wrap64
  omega
theorem len8_get (y : Int) (h : y.toNat < Lib.len8tab.size) : ((Lib.len8tab[y.toNat]'h).toNat : Int) = Lib.len8 y := by
  unfold Lib.len8
  rw [getElem?_pos Lib.len8tab y.toNat h]
  rfl
set_option maxHeartbeats 4000000 in
set_option maxRecDepth 100000 in
theorem len64_any (x : Int) (w : World) (h0 : 0 ≤ x) (h1 : x ≤ 18446744073709551615) :
    Calls Try.prog 48 #[.int .u64 x] w fun e w' => e = .returned (.int .i64 (Lib.bitLen x.toNat)) ∧ w' = w := by
  go_enter Try.func48, Try.ntmps48
  go_wp2
  all_goals first
    | (go_ret; refine ⟨congrArg Ending.returned (congrArg (Value.int IntKind.i64) ?_), rfl⟩; go_light)
    | (exfalso
       go_light
       have hs := len8tab_size
       omega)
  all_goals first
    | (rw [len8_get (x / 4294967296 / 65536 / 256) _, Lib.len8_of (x / 4294967296 / 65536 / 256) (by omega) (by omega)]
       have e : (x / 4294967296 / 65536 / 256).toNat = x.toNat / 72057594037927936 := by omega
       have l := Lib.bitLen_le8' (x / 4294967296 / 65536 / 256) (by omega) (by omega)
       have s := Lib.bitLen_shift56 x.toNat (by omega) (by omega)
       rw [e] at l ⊢
       exact wrap_add 56 _ _ (by decide) l s)
    | (rw [len8_get (x / 4294967296 / 65536) _, Lib.len8_of (x / 4294967296 / 65536) (by omega) (by omega)]
       have e : (x / 4294967296 / 65536).toNat = x.toNat / 281474976710656 := by omega
       have l := Lib.bitLen_le8' (x / 4294967296 / 65536) (by omega) (by omega)
       have s := Lib.bitLen_shift48 x.toNat (by omega) (by omega)
       rw [e] at l ⊢
       exact wrap_add 48 _ _ (by decide) l s)
    | (rw [len8_get (x / 4294967296 / 256) _, Lib.len8_of (x / 4294967296 / 256) (by omega) (by omega)]
       have e : (x / 4294967296 / 256).toNat = x.toNat / 1099511627776 := by omega
       have l := Lib.bitLen_le8' (x / 4294967296 / 256) (by omega) (by omega)
       have s := Lib.bitLen_shift40 x.toNat (by omega) (by omega)
       rw [e] at l ⊢
       exact wrap_add 40 _ _ (by decide) l s)
    | (rw [len8_get (x / 4294967296) _, Lib.len8_of (x / 4294967296) (by omega) (by omega)]
       have e : (x / 4294967296).toNat = x.toNat / 4294967296 := by omega
       have l := Lib.bitLen_le8' (x / 4294967296) (by omega) (by omega)
       have s := Lib.bitLen_shift32 x.toNat (by omega) (by omega)
       rw [e] at l ⊢
       exact wrap_add 32 _ _ (by decide) l s)
    | (rw [len8_get (x / 65536 / 256) _, Lib.len8_of (x / 65536 / 256) (by omega) (by omega)]
       have e : (x / 65536 / 256).toNat = x.toNat / 16777216 := by omega
       have l := Lib.bitLen_le8' (x / 65536 / 256) (by omega) (by omega)
       have s := Lib.bitLen_shift24 x.toNat (by omega) (by omega)
       rw [e] at l ⊢
       exact wrap_add 24 _ _ (by decide) l s)
    | (rw [len8_get (x / 65536) _, Lib.len8_of (x / 65536) (by omega) (by omega)]
       have e : (x / 65536).toNat = x.toNat / 65536 := by omega
       have l := Lib.bitLen_le8' (x / 65536) (by omega) (by omega)
       have s := Lib.bitLen_shift16 x.toNat (by omega) (by omega)
       rw [e] at l ⊢
       exact wrap_add 16 _ _ (by decide) l s)
    | (rw [len8_get (x / 256) _, Lib.len8_of (x / 256) (by omega) (by omega)]
       have e : (x / 256).toNat = x.toNat / 256 := by omega
       have l := Lib.bitLen_le8' (x / 256) (by omega) (by omega)
       have s := Lib.bitLen_shift8 x.toNat (by omega) (by omega)
       rw [e] at l ⊢
       exact wrap_add 8 _ _ (by decide) l s)
    | (rw [len8_get (x) _, Lib.len8_of (x) (by omega) (by omega)]
       have e : (x).toNat = x.toNat := by omega
       have l := Lib.bitLen_le8' (x) (by omega) (by omega)
       rw [e] at l ⊢
       first | exact wrap_wrap _ l | exact wrap_add 0 _ _ (by decide) l (by omega) | exact wrap_one _ l)
theorem bitLen_spec (x : Nat) (h0 : x ≠ 0) (h : x < 2 ^ 64) : 1 ≤ Lib.bitLen x ∧ Lib.bitLen x ≤ 64 ∧ 2 ^ (Lib.bitLen x - 1) ≤ x ∧ x < 2 ^ Lib.bitLen x := by
  induction x using Nat.strongRecOn with
  | _ x ih =>
    have hh := Lib.bitLen_half x h0 h
    by_cases h1 : x = 1
    · subst h1
      exact ⟨by decide +kernel, by decide +kernel, by decide +kernel, by decide +kernel⟩
    · obtain ⟨i1, i2, i3, i4⟩ := ih (x / 2) (by omega) (by omega) (by omega)
      have hle := Lib.bitLen_le x 64 (by omega) h
      refine ⟨by omega, hle, ?_, ?_⟩
      · rw [hh, show 1 + Lib.bitLen (x / 2) - 1 = (Lib.bitLen (x / 2) - 1) + 1 by omega, Nat.pow_succ]
        omega
      · rw [hh, Nat.add_comm, Nat.pow_succ]
        omega
set_option maxHeartbeats 400000 in
theorem zeros_any (y : Nat) (w : World) (h0 : 0 < y) (h : y < 18446744073709551616) :
    Calls Try.prog 47 #[.int .u64 (y : Int)] w fun e w' => e = .returned (.int .i64 ((64 - Lib.bitLen y : Nat) : Int)) ∧ w' = w := by
  have hs := (bitLen_spec y (by omega) h).2.1
  go_enter Try.func47, Try.ntmps47
  go_wp2_with fail
  refine (len64_any (y : Int) _ (by omega) (by omega)).mono ?_
  rw [Int.toNat_natCast]
  rintro e w' ⟨rfl, rfl⟩
  go_wp2
  go_ret
  exact ⟨ret_int (by omega), rfl⟩
theorem or_add (x y k : Nat) (hk63 : k ≤ 63) (hx : x * 2 ^ k < 2 ^ 64) (hy : y < 2 ^ k) : bits .or .u64 ((x * 2 ^ k : Nat) : Int) (y : Int) = ((x * 2 ^ k + y : Nat) : Int) := by
  have hor : x * 2 ^ k ||| y = x * 2 ^ k + y := by
    rw [Nat.mul_comm, Nat.two_pow_add_eq_or_of_lt hy]
  have hk : y < 2 ^ 64 := Nat.lt_of_lt_of_le hy (Nat.pow_le_pow_right (by omega) (by omega))
  have e : ∀ z : Nat, z < 2 ^ 64 → (BitVec.ofInt 64 (z : Int)).toNat = z := fun z hz => by rw [BitVec.ofInt_natCast, BitVec.toNat_ofNat]; exact Nat.mod_eq_of_lt hz
  have hlt : x * 2 ^ k ||| y < 2 ^ 64 := Nat.or_lt_two_pow hx hk
  show IntKind.u64.wrap ((BitVec.ofInt 64 ((x * 2 ^ k : Nat) : Int) ||| BitVec.ofInt 64 (y : Int)).toNat : Int) = _
  rw [BitVec.toNat_or, e _ hx, e y hk, hor, IntKind.wrap_u64]
  rw [hor] at hlt
  omega
/-- The numbers of one digit's search. -/
structure DivC (Y1 Y0 U1 : Int) (yn y1n y0n un u1n : Nat) : Prop where
  y1 : Y1 = y1n
  y0 : Y0 = y0n
  u1 : U1 = u1n
  hy : yn = y1n * 4294967296 + y0n
  b1 : 2147483648 ≤ y1n
  b1' : y1n < 4294967296
  b0 : y0n < 4294967296
  bu : u1n < 4294967296
  lt : un < yn
theorem DivC.pos {Y1 Y0 U1 : Int} {yn y1n y0n un u1n : Nat} (h : DivC Y1 Y0 U1 yn y1n y0n un u1n) : 0 < yn := by have := h.lt; omega
def LoopRel (yn N y1n un : Nat) (v15 v16 : Value) : Prop := ∃ (q r : Int) (qn rn : Nat), v15 = .int .u64 q ∧ v16 = .int .u64 r ∧ Aside0 (q = qn) ∧ Aside0 (r = rn) ∧ Aside0 (rn < 4294967296) ∧ Aside0 (Guess yn N y1n un qn rn)
theorem round_nums {N q r : Nat} {Y1 Y0 U1 : Int} {yn y1n y0n un u1n : Nat} (h : DivC Y1 Y0 U1 yn y1n y0n un u1n) (g : Guess yn N y1n un q r) (hr : r < 4294967296) :
    IntKind.u64.wrap ((q : Int) * Y0) = (q * y0n : Nat) ∧ IntKind.u64.wrap (IntKind.u64.wrap (4294967296 * (r : Int)) + U1) = (4294967296 * r + u1n : Nat) := by
  have hp := digit_prod g.few h.b0
  have hu := h.bu
  rw [h.y0, h.u1]
  refine ⟨?_, ?_⟩
  · rw [mulN, wrapN _ hp]
  · rw [IntKind.wrap_u64, IntKind.wrap_u64]; omega
theorem round_stop {q r D Y1 Y0 U1 : Int} {yn y1n y0n un u1n qn rn : Nat} (h : DivC Y1 Y0 U1 yn y1n y0n un u1n) (hq : q = qn) (hr : r = rn) (hrn : rn < 4294967296) (g : Guess yn (un * 4294967296 + u1n) y1n un qn rn)
    (hD : D = ((un * 4294967296 + u1n) / yn : Nat)) (hs : q < 4294967296 ∧ IntKind.u64.wrap (q * Y0) ≤ IntKind.u64.wrap (IntKind.u64.wrap (4294967296 * r) + U1)) : q = D := by
  subst hq hr
  obtain ⟨e1, e2⟩ := round_nums h g hrn
  rw [e1, e2] at hs
  rw [hD, g.ends h.hy rfl h.pos (by omega)]
theorem round_less {q r D Y1 Y0 U1 : Int} {yn y1n y0n un u1n qn rn : Nat} (h : DivC Y1 Y0 U1 yn y1n y0n un u1n) (hq : q = qn) (hr : r = rn) (hrn : rn < 4294967296) (g : Guess yn (un * 4294967296 + u1n) y1n un qn rn)
    (hD : D = ((un * 4294967296 + u1n) / yn : Nat)) (hs : 4294967296 ≤ q ∨ IntKind.u64.wrap (IntKind.u64.wrap (4294967296 * r) + U1) < IntKind.u64.wrap (q * Y0)) :
    (4294967296 ≤ IntKind.u64.wrap (r + Y1) → IntKind.u64.wrap (q - 1) = D) ∧
    (IntKind.u64.wrap (r + Y1) < 4294967296 → LoopRel yn (un * 4294967296 + u1n) y1n un (.int .u64 (IntKind.u64.wrap (q - 1))) (.int .u64 (IntKind.u64.wrap (r + Y1))) ∧ (IntKind.u64.wrap (q - 1)).toNat < q.toNat) := by
  subst hq hr
  obtain ⟨e1, e2⟩ := round_nums h g hrn
  rw [e1, e2] at hs
  have hy1 := h.y1
  subst hy1
  have hq1 : (un * 4294967296 + u1n) / yn < 4294967296 := digit_lt rfl h.lt h.bu
  obtain ⟨hq0, g'⟩ := g.less h.hy rfl h.pos hq1 (by omega)
  have hf := g.few
  have hb := h.b1'
  have e3 : IntKind.u64.wrap ((qn : Int) - 1) = (qn - 1 : Nat) := by rw [IntKind.wrap_u64]; omega
  have e4 : IntKind.u64.wrap ((rn : Int) + (y1n : Int)) = (rn + y1n : Nat) := by rw [IntKind.wrap_u64]; omega
  rw [e3, e4]
  refine ⟨fun hfar => ?_, fun hnear => ⟨⟨_, _, qn - 1, rn + y1n, rfl, rfl, ⟨rfl⟩, ⟨rfl⟩, ⟨by omega⟩, ⟨g'⟩⟩, by omega⟩⟩
  rw [hD, g'.far h.hy rfl h.b0 h.pos (by omega)]
set_option maxHeartbeats 4000000 in
set_option maxRecDepth 100000 in
theorem div64_z (hi lo y s Y Y1 Y0 U T U1 U0 Q R D1 M Q2 R2 D0 QUO REM : Int) (yn y1n y0n un u1n mn u0n qn rn q2n r2n : Nat) (w : World) (k1 : ¬ (y = 0)) (k2 : hi < y) (k3 : ¬ (hi = 0)) (k4 : ¬ (Y1 = 0)) (hs0 : 0 ≤ s) (hs : s ≤ 63)
  (E1 : IntKind.u64.wrap (y * 2 ^ s.toNat) = Y) (E2 : Y / 4294967296 = Y1)
  (E3 : bits .and .u64 Y 4294967295 = Y0) (E4 : bits .or .u64 (IntKind.u64.wrap (hi * 2 ^ s.toNat)) (lo / 2 ^ (64 - s).toNat) = U) (E5 : IntKind.u64.wrap (lo * 2 ^ s.toNat) = T) (E6 : T / 4294967296 = U1)
  (E7 : bits .and .u64 T 4294967295 = U0) (E8 : IntKind.u64.wrap (U.tdiv Y1) = Q) (E9 : IntKind.u64.wrap (U - IntKind.u64.wrap (Q * Y1)) = R)
  (HC : Aside0 (DivC Y1 Y0 U1 yn y1n y0n un u1n)) (HR : Aside0 (rn < 4294967296)) (C1 : Aside0 (Q = qn)) (C2 : Aside0 (R = rn))
  (HG : Aside0 (Guess yn (un * 4294967296 + u1n) y1n un qn rn)) (HD1 : Aside0 (D1 = ((un * 4294967296 + u1n) / yn : Nat)))
  (F1 : Aside0 (IntKind.u64.wrap (IntKind.u64.wrap (IntKind.u64.wrap (U * 4294967296) + U1) - IntKind.u64.wrap (D1 * Y)) = M))
  (F2 : Aside0 (IntKind.u64.wrap (M.tdiv Y1) = Q2)) (F3 : Aside0 (IntKind.u64.wrap (M - IntKind.u64.wrap (Q2 * Y1)) = R2))
  (HC2 : Aside0 (DivC Y1 Y0 U0 yn y1n y0n mn u0n)) (HR2 : Aside0 (r2n < 4294967296)) (C12 : Aside0 (Q2 = q2n)) (C22 : Aside0 (R2 = r2n))
  (HG2 : Aside0 (Guess yn (mn * 4294967296 + u0n) y1n mn q2n r2n)) (HD2 : Aside0 (D0 = ((mn * 4294967296 + u0n) / yn : Nat)))
  (F4 : Aside0 (IntKind.u64.wrap (IntKind.u64.wrap (D1 * 4294967296) + D0) = QUO))
  (F5 : Aside0 (IntKind.u64.wrap (IntKind.u64.wrap (IntKind.u64.wrap (M * 4294967296) + U0) - IntKind.u64.wrap (D0 * Y)) / 2 ^ s.toNat = REM))
  (HL : Aside0 (∀ w, Calls Try.prog 47 #[.int .u64 y] w fun e w' => e = .returned (.int .i64 s) ∧ w' = w)) :
    Calls Try.prog 46 #[.int .u64 hi, .int .u64 lo, .int .u64 y] w fun e w' => e = .returned (.tuple #[.int .u64 QUO, .int .u64 REM]) ∧ w' = w := by
  go_enter Try.func46, Try.ntmps46
  go_wp2_with fail
  refine (HL.out _).mono ?_
  rintro e w' ⟨rfl, rfl⟩
  go_upto_block 0 with fail
  clear E1 E2 E3 E4 E5 E6 E7 E8 E9
  go_cut [15, 16] (fun v15 v16 w1 => w1 = w' ∧ v15 = .int .u64 D1)
  case first =>
    go_wp2_with fail
    go_loop [15, 16] (fun v15 v16 => LoopRel yn (un * 4294967296 + u1n) y1n un v15 v16) (fun v15 v16 => (intOf v15).toNat)
    case atStart => exact ⟨Q, R, qn, rn, rfl, rfl, C1, C2, HR, HG⟩
    case round =>
      obtain ⟨q, r, qn, rn, rfl, rfl, QN, RN, hr, g⟩ := hrel
      have LS := Aside0.mk (round_stop HC.out QN.out RN.out hr.out g.out HD1.out)
      have LL := Aside0.mk (round_less HC.out QN.out RN.out hr.out g.out HD1.out)
      clear QN RN hr g
      go_wp2_with fail
      · have c : 4294967296 ≤ q ∨ IntKind.u64.wrap (IntKind.u64.wrap (4294967296 * r) + U1) < IntKind.u64.wrap (q * Y0) := by assumption
        have c2 : 4294967296 ≤ IntKind.u64.wrap (r + Y1) := by assumption
        have e := (LL.out c).1 c2
        go_meet
        exact ⟨rfl, by rw [e]⟩
      · have c : 4294967296 ≤ q ∨ IntKind.u64.wrap (IntKind.u64.wrap (4294967296 * r) + U1) < IntKind.u64.wrap (q * Y0) := by assumption
        have c2 : IntKind.u64.wrap (r + Y1) < 4294967296 := by assumption
        exact (LL.out c).2 c2
      · have c : q < 4294967296 ∧ IntKind.u64.wrap (q * Y0) ≤ IntKind.u64.wrap (IntKind.u64.wrap (4294967296 * r) + U1) := by assumption
        have e := LS.out c
        go_meet
        exact ⟨rfl, by rw [e]⟩
      · have c2 : 4294967296 ≤ IntKind.u64.wrap (r + Y1) := by assumption
        have e := (LL.out (.inl (by assumption))).1 c2
        go_meet
        exact ⟨rfl, by rw [e]⟩
      · have c : ¬ (q < 4294967296) := by assumption
        have c2 : IntKind.u64.wrap (r + Y1) < 4294967296 := by assumption
        exact (LL.out (.inl (by omega))).2 c2
  case rest =>
    obtain ⟨rfl, rfl⟩ := hcut
    have f1 := F1.out
    have f2 := F2.out
    have f3 := F3.out
    go_upto_block 2 with fail
    clear f1 f2 f3
    go_cut [18, 16] (fun v15 v16 w1 => w1 = wc ∧ v15 = .int .u64 D0)
    case first =>
      go_wp2_with fail
      go_loop [18, 16] (fun v15 v16 => LoopRel yn (mn * 4294967296 + u0n) y1n mn v15 v16) (fun v15 v16 => (intOf v15).toNat)
      case atStart => exact ⟨Q2, R2, q2n, r2n, rfl, rfl, C12, C22, HR2, HG2⟩
      case round =>
        obtain ⟨q, r, qn, rn, rfl, rfl, QN, RN, hr, g⟩ := hrel
        have LS := Aside0.mk (round_stop HC2.out QN.out RN.out hr.out g.out HD2.out)
        have LL := Aside0.mk (round_less HC2.out QN.out RN.out hr.out g.out HD2.out)
        clear QN RN hr g
        go_wp2_with fail
        · have c : 4294967296 ≤ q ∨ IntKind.u64.wrap (IntKind.u64.wrap (4294967296 * r) + U0) < IntKind.u64.wrap (q * Y0) := by assumption
          have c2 : 4294967296 ≤ IntKind.u64.wrap (r + Y1) := by assumption
          have e := (LL.out c).1 c2
          go_meet
          exact ⟨rfl, by rw [e]⟩
        · have c : 4294967296 ≤ q ∨ IntKind.u64.wrap (IntKind.u64.wrap (4294967296 * r) + U0) < IntKind.u64.wrap (q * Y0) := by assumption
          have c2 : IntKind.u64.wrap (r + Y1) < 4294967296 := by assumption
          exact (LL.out c).2 c2
        · have c : q < 4294967296 ∧ IntKind.u64.wrap (q * Y0) ≤ IntKind.u64.wrap (IntKind.u64.wrap (4294967296 * r) + U0) := by assumption
          have e := LS.out c
          go_meet
          exact ⟨rfl, by rw [e]⟩
        · have c2 : 4294967296 ≤ IntKind.u64.wrap (r + Y1) := by assumption
          have e := (LL.out (.inl (by assumption))).1 c2
          go_meet
          exact ⟨rfl, by rw [e]⟩
        · have c : ¬ (q < 4294967296) := by assumption
          have c2 : IntKind.u64.wrap (r + Y1) < 4294967296 := by assumption
          exact (LL.out (.inl (by omega))).2 c2
    case rest =>
      obtain ⟨rfl, rfl⟩ := hcut
      have f4 := F4.out
      have f5 := F5.out
      go_wp2_with fail
      go_ret2
      exact ⟨rfl, rfl⟩
/-- A text of two words, shifted. -/
theorem shifted (hi lo s : Nat) (hs : s ≤ 63) (hlo : lo < 2 ^ 64) :
    (hi * 2 ^ s + lo / 2 ^ (64 - s)) * 2 ^ 64 + lo * 2 ^ s % 2 ^ 64 = (hi * 2 ^ 64 + lo) * 2 ^ s ∧ lo / 2 ^ (64 - s) < 2 ^ s := by
  have e64 : (2 : Nat) ^ 64 = 2 ^ (64 - s) * 2 ^ s := by rw [← Nat.pow_add]; congr 1; omega
  have hd := Nat.div_add_mod lo (2 ^ (64 - s))
  have hm := Nat.mod_lt lo (show 0 < 2 ^ (64 - s) from Nat.two_pow_pos _)
  have hp : 0 < 2 ^ s := Nat.two_pow_pos _
  rw [e64] at hlo ⊢
  generalize 2 ^ (64 - s) = A at *
  generalize 2 ^ s = B at *
  have hA : 0 < A := by omega
  refine ⟨?_, ?_⟩
  · rw [Nat.mul_mod_mul_right]
    generalize lo / A = q at *
    generalize lo % A = r at *
    subst hd
    simp only [Nat.add_mul, Nat.mul_assoc, Nat.add_assoc]
    rw [Nat.mul_left_comm B A B]
    rw [Nat.mul_left_comm q A B]
  · rw [Nat.div_lt_iff_lt_mul hA, Nat.mul_comm]
    exact hlo
theorem mod_back {X p m : Nat} (h : X = p + m) (hm : m < 18446744073709551616) : ((X : Int) % 18446744073709551616 - (p : Int) % 18446744073709551616) % 18446744073709551616 = m := by omega
theorem wrap_step (u u1 d y m : Nat) (h : u * 4294967296 + u1 = d * y + m) (hm : m < 18446744073709551616) :
    IntKind.u64.wrap (IntKind.u64.wrap (IntKind.u64.wrap ((u : Int) * 4294967296) + u1) - IntKind.u64.wrap ((d : Int) * y)) = m := by
  rw [mulN d y]
  generalize d * y = p at *
  simp only [IntKind.wrap_u64]
  omega
theorem guess_wrap (u y1 : Nat) (h : u / y1 < 18446744073709551616) (hu : u < 18446744073709551616) :
    IntKind.u64.wrap ((u : Int).tdiv y1) = (u / y1 : Nat) ∧ IntKind.u64.wrap ((u : Int) - IntKind.u64.wrap (((u / y1 : Nat) : Int) * y1)) = (u % y1 : Nat) := by
  have hd := Nat.div_add_mod u y1
  have e1 : ((u : Int).tdiv y1) = ((u / y1 : Nat) : Int) := by
    rw [Int.tdiv_eq_ediv_of_nonneg (by omega)]
    exact (Int.natCast_ediv u y1).symm
  refine ⟨by rw [e1, wrapN _ h], ?_⟩
  rw [mulN, Nat.mul_comm (u / y1) y1]
  generalize y1 * (u / y1) = p at *
  generalize u % y1 = r at *
  simp only [IntKind.wrap_u64]
  omega
theorem wrap_quo (d1 d0 : Nat) (h : d1 * 4294967296 + d0 < 18446744073709551616) : IntKind.u64.wrap (IntKind.u64.wrap ((d1 : Int) * 4294967296) + d0) = (d1 * 4294967296 + d0 : Nat) := by
  simp only [IntKind.wrap_u64]
  omega
set_option maxHeartbeats 1000000 in
theorem div64_core (hi lo y s un t u1 u0 y1 y0 yn mn d1 d0 rem : Nat) (p : Int) (h1 : 0 < hi) (h2 : hi < y) (hs : s ≤ 63) (w : World) (hp : p = 2 ^ s) (hp0 : 0 < p)
    (E1 : IntKind.u64.wrap ((y : Int) * 2 ^ (s : Int).toNat) = (yn : Int)) (E4 : bits .or .u64 (IntKind.u64.wrap ((hi : Int) * 2 ^ (s : Int).toNat)) ((lo : Int) / 2 ^ (64 - (s : Int)).toNat) = (un : Int))
    (E5 : IntKind.u64.wrap ((lo : Int) * 2 ^ (s : Int).toNat) = (t : Int)) (hyn : 9223372036854775808 ≤ yn) (hyn' : yn < 18446744073709551616) (ht : t < 18446744073709551616) (hlt : un < yn)
    (a1 : u1 = t / 4294967296) (a2 : u0 = t % 4294967296) (a3 : y1 = yn / 4294967296) (a4 : y0 = yn % 4294967296)
    (b1 : d1 = (un * 4294967296 + u1) / yn) (b2 : mn = (un * 4294967296 + u1) % yn) (b3 : d0 = (mn * 4294967296 + u0) / yn) (b4 : rem = (mn * 4294967296 + u0) % yn)
    (hq : d1 * 4294967296 + d0 < 18446744073709551616)
    (hl : ∀ w, Calls Try.prog 47 #[.int .u64 (y : Int)] w fun e w' => e = .returned (.int .i64 (s : Int)) ∧ w' = w) :
    Calls Try.prog 46 #[.int .u64 hi, .int .u64 lo, .int .u64 y] w fun e w' => e = .returned (.tuple #[.int .u64 (d1 * 4294967296 + d0 : Nat), .int .u64 ((rem : Int) / 2 ^ (s : Int).toNat)]) ∧ w' = w := by
  have h0 : 0 < yn := by omega
  have hyy : yn = y1 * 4294967296 + y0 := by omega
  have hm1 : mn < yn := by rw [b2]; exact Nat.mod_lt _ h0
  have hd1 : un * 4294967296 + u1 = d1 * yn + mn := by rw [Nat.mul_comm d1 yn, b1, b2]; exact (Nat.div_add_mod _ _).symm
  have hd2 : mn * 4294967296 + u0 = d0 * yn + rem := by rw [Nat.mul_comm d0 yn, b3, b4]; exact (Nat.div_add_mod _ _).symm
  have hrm : rem < yn := by rw [b4]; exact Nat.mod_lt _ h0
  have C1 : DivC (y1 : Int) (y0 : Int) (u1 : Int) yn y1 y0 un u1 := ⟨rfl, rfl, rfl, hyy, by omega, by omega, by omega, by omega, hlt⟩
  have C2 : DivC (y1 : Int) (y0 : Int) (u0 : Int) yn y1 y0 mn u0 := ⟨rfl, rfl, rfl, hyy, by omega, by omega, by omega, by omega, hm1⟩
  have G1 := Guess.first (y := yn) (N := un * 4294967296 + u1) (yn1 := y1) (yn0 := y0) (u := un) (u1 := u1) hyy rfl C1.b0 C1.b1 C1.b1' hlt C1.bu
  have G2 := Guess.first (y := yn) (N := mn * 4294967296 + u0) (yn1 := y1) (yn0 := y0) (u := mn) (u1 := u0) hyy rfl C2.b0 C2.b1 C2.b1' hm1 C2.bu
  have f1 := G1.few
  have f2 := G2.few
  obtain ⟨g1, g2⟩ := guess_wrap un y1 (by omega) (by omega)
  obtain ⟨g3, g4⟩ := guess_wrap mn y1 (by omega) (by omega)
  have hmr1 := Nat.mod_lt un (show 0 < y1 by omega)
  have hmr2 := Nat.mod_lt mn (show 0 < y1 by omega)
  have W1 := wrap_step un u1 d1 yn mn hd1 (by omega)
  have W2 := wrap_step mn u0 d0 yn rem hd2 (by omega)
  have M1 := maskN yn hyn'
  have M2 := maskN t ht
  rw [← a4] at M1
  rw [← a2] at M2
  exact div64_z hi lo y s yn y1 y0 un t u1 u0 (un / y1 : Nat) (un % y1 : Nat) d1 mn (mn / y1 : Nat) (mn % y1 : Nat) d0 _ _
    yn y1 y0 un u1 mn u0 _ _ _ _ w (by omega) (by omega) (by omega) (by omega) (by omega) (by omega) E1 (by omega) M1 E4 E5 (by omega) M2 g1 g2 ⟨C1⟩ ⟨by omega⟩ ⟨rfl⟩ ⟨rfl⟩ ⟨G1⟩ ⟨by rw [b1]⟩ ⟨W1⟩ ⟨g3⟩ ⟨g4⟩ ⟨C2⟩ ⟨by omega⟩ ⟨rfl⟩ ⟨rfl⟩ ⟨G2⟩ ⟨by rw [b3]⟩ ⟨wrap_quo d1 d0 hq⟩ ⟨by rw [W2]⟩ ⟨hl⟩
theorem div64_pos (hi lo y : Nat) (h1 : 0 < hi) (h2 : hi < y) (hy : y < 18446744073709551616) (hlo : lo < 18446744073709551616) (w : World) :
    Calls Try.prog 46 #[.int .u64 hi, .int .u64 lo, .int .u64 y] w fun e w' => e = .returned (.tuple #[.int .u64 ((hi * 18446744073709551616 + lo) / y : Nat), .int .u64 ((hi * 18446744073709551616 + lo) % y : Nat)]) ∧ w' = w := by
  have hl := fun w => zeros_any y w (by omega) hy
  obtain ⟨b1, b2, b3, b4⟩ := bitLen_spec y (by omega) (show y < 2 ^ 64 from hy)
  have hs : 64 - Lib.bitLen y ≤ 63 := by omega
  have hb : Lib.bitLen y = 64 - (64 - Lib.bitLen y) := by omega
  generalize 64 - Lib.bitLen y = s at *
  rw [hb] at b3 b4
  clear b1 b2 hb
  have hp : 0 < 2 ^ s := Nat.two_pow_pos _
  have y63 : 2 ^ 63 ≤ y * 2 ^ s := by
    have := Nat.mul_le_mul_right (2 ^ s) b3
    rw [← Nat.pow_add] at this
    rwa [show 64 - s - 1 + s = 63 by omega] at this
  have y64 : y * 2 ^ s < 2 ^ 64 := by
    have := Nat.mul_lt_mul_of_pos_right b4 hp
    rw [← Nat.pow_add] at this
    rwa [show 64 - s + s = 64 by omega] at this
  obtain ⟨hsh, hlo2⟩ := shifted hi lo s hs (show lo < 2 ^ 64 from hlo)
  have hhi : hi * 2 ^ s < 2 ^ 64 := Nat.lt_of_le_of_lt (Nat.mul_le_mul_right _ (by omega)) y64
  have hor := or_add hi (lo / 2 ^ (64 - s)) s hs hhi hlo2
  have cast2 : ∀ k : Nat, ((2 ^ k : Nat) : Int) = 2 ^ k := fun k => by rw [Int.natCast_pow]; rfl
  have E1 : IntKind.u64.wrap ((y : Int) * 2 ^ (s : Int).toNat) = ((y * 2 ^ s : Nat) : Int) := by
    rw [Int.toNat_natCast, ← cast2, mulN, wrapN _ y64]
  have E4 : bits .or .u64 (IntKind.u64.wrap ((hi : Int) * 2 ^ (s : Int).toNat)) ((lo : Int) / 2 ^ (64 - (s : Int)).toNat) = ((hi * 2 ^ s + lo / 2 ^ (64 - s) : Nat) : Int) := by
    rw [Int.toNat_natCast, show (64 - (s : Int)).toNat = 64 - s by omega, ← cast2, ← cast2, mulN, wrapN _ hhi, ← Int.natCast_ediv, hor]
  have E5 : IntKind.u64.wrap ((lo : Int) * 2 ^ (s : Int).toNat) = ((lo * 2 ^ s % 2 ^ 64 : Nat) : Int) := by
    rw [Int.toNat_natCast, ← cast2, mulN, wrapM]
  have p64 : (2 : Nat) ^ 64 = 18446744073709551616 := by decide
  have hlt : (hi * 2 ^ s + lo / 2 ^ (64 - s)) < y * 2 ^ s := by
    have q1 : hi * 2 ^ 64 + lo < y * 2 ^ 64 := by omega
    have q2 := Nat.mul_lt_mul_of_pos_right q1 hp
    rw [← hsh, Nat.mul_right_comm] at q2
    omega
  obtain ⟨N, hN⟩ : ∃ N, N = hi * 2 ^ 64 + lo := ⟨_, rfl⟩
  have hN1 : N * 2 ^ s / (y * 2 ^ s) = N / y := Nat.mul_div_mul_right _ _ hp
  have hN2 : N * 2 ^ s % (y * 2 ^ s) = N % y * 2 ^ s := Nat.mul_mod_mul_right _ _ _
  have hqlt : N / y < 2 ^ 64 := by
    rw [Nat.div_lt_iff_lt_mul (by omega)]
    omega
  have htt : lo * 2 ^ s % 2 ^ 64 < 2 ^ 64 := Nat.mod_lt _ (by decide)
  rw [← hN] at hsh
  have hNN : hi * 18446744073709551616 + lo = N := by rw [hN, p64]
  rw [p64] at hsh
  rw [hNN]
  clear hor hhi hlo2 b3 b4 hN hNN
  obtain ⟨t, et⟩ : ∃ t, t = lo * 2 ^ s % 2 ^ 64 := ⟨_, rfl⟩
  obtain ⟨un, eu⟩ : ∃ t, t = hi * 2 ^ s + lo / 2 ^ (64 - s) := ⟨_, rfl⟩
  obtain ⟨yn, ey⟩ : ∃ t, t = y * 2 ^ s := ⟨_, rfl⟩
  rw [← et] at E5 htt hsh
  rw [← eu] at E4 hsh hlt
  rw [← ey] at E1 y63 y64 hlt hN1 hN2
  clear et eu ey
  obtain ⟨u1, e1⟩ : ∃ u1, u1 = t / 4294967296 := ⟨_, rfl⟩
  obtain ⟨u0, e0⟩ : ∃ u1, u1 = t % 4294967296 := ⟨_, rfl⟩
  obtain ⟨mn, hmn⟩ : ∃ mn, mn = (un * 4294967296 + u1) % yn := ⟨_, rfl⟩
  obtain ⟨d1, hd1⟩ : ∃ mn, mn = (un * 4294967296 + u1) / yn := ⟨_, rfl⟩
  obtain ⟨d0, hd0⟩ : ∃ d0, d0 = (mn * 4294967296 + u0) / yn := ⟨_, rfl⟩
  obtain ⟨rem, hrem⟩ : ∃ d0, d0 = (mn * 4294967296 + u0) % yn := ⟨_, rfl⟩
  obtain ⟨r1, r2⟩ := two_digits (y := yn) (u := un) (u1 := u1) (u0 := u0) (by omega) hd1 hmn hd0
  have e32 : (un * 4294967296 + u1) * 4294967296 + u0 = N * 2 ^ s := by
    rw [← hsh, e1, e0]
    clear r1 r2 hrem hd0 hd1 hmn hN1 hN2 E1 E4 E5 hqlt hsh hlt hl hp cast2
    omega
  rw [e32, hN1] at r1
  rw [e32, hN2, ← hrem] at r2
  refine (div64_core hi lo y s un t u1 u0 (yn / 4294967296) (yn % 4294967296) yn mn d1 d0 rem (2 ^ s) h1 h2 hs w rfl (by have := cast2 s; omega) E1 E4 E5 (by omega) (by omega) (by omega) hlt e1 e0 rfl rfl hd1 hmn hd0 hrem (by omega) hl).mono ?_
  rintro e w' ⟨rfl, rfl⟩
  rw [r1, r2, Int.toNat_natCast, ← cast2, ← Int.natCast_ediv, Nat.mul_div_cancel _ hp]
  exact ⟨rfl, rfl⟩
set_option maxHeartbeats 1000000 in
theorem div64_zero (lo y : Nat) (hy0 : 0 < y) (hlo : lo < 18446744073709551616) (w : World) :
    Calls Try.prog 46 #[.int .u64 0, .int .u64 lo, .int .u64 y] w fun e w' => e = .returned (.tuple #[.int .u64 (lo / y : Nat), .int .u64 (lo % y : Nat)]) ∧ Drawn0 w w' := by
  have E1 : IntKind.u64.wrap ((lo : Int).tdiv y) = (lo / y : Nat) := by
    rw [Int.tdiv_eq_ediv_of_nonneg (by omega), ← Int.natCast_ediv, wrapN _ (Nat.lt_of_le_of_lt (Nat.div_le_self _ _) hlo)]
  have E2 : (lo : Int).tmod y = (lo % y : Nat) := by
    rw [Int.tmod_eq_emod_of_nonneg (by omega), ← Int.natCast_emod]
  obtain ⟨Q, hQ⟩ : ∃ Q : Int, Q = ((lo / y : Nat) : Int) := ⟨_, rfl⟩
  obtain ⟨R, hR⟩ : ∃ Q : Int, Q = ((lo % y : Nat) : Int) := ⟨_, rfl⟩
  obtain ⟨L, hL⟩ : ∃ Q : Int, Q = (lo : Int) := ⟨_, rfl⟩
  obtain ⟨Y, hY⟩ : ∃ Q : Int, Q = (y : Int) := ⟨_, rfl⟩
  have k1 : ¬ (Y = 0) := by omega
  have k2 : 0 < Y := by omega
  rw [← hQ, ← hL, ← hY] at E1
  rw [← hR, ← hL, ← hY] at E2
  rw [← hQ, ← hR, ← hL, ← hY]
  clear hQ hR hL hY
  go_enter Try.func46, Try.ntmps46
  go_wp2_with fail
  go_region
  all_goals go_wp2_with fail
  all_goals go_ret2
  all_goals exact ⟨rfl, ⟨1, rfl⟩⟩
end Go.Proofs.Ytpmbacgdbnfeeaa.B
