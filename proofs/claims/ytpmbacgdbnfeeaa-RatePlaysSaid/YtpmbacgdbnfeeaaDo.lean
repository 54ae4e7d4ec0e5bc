/-
  What the reference has for quotients of products: it is the program's own. Walks over the reference.
-/
import Derived.Test.YtpmbacgdbnfeeaaDv
namespace Go.Proofs.Ytpmbacgdbnfeeaa.B
open Go.RowKit Go.Proofs.YtpmbacgdbnfeeaaW.PrintWords Go.Proofs.YtpmbacgdbnfeeaaW.PrintLast Go.Proofs.YtpmbacgdbnfeeaaW.PrintMore
set_option linter.unusedVariables false
set_option linter.unusedSimpArgs false
theorem rsize_any (a : Int) (ha : I64 a) (w : World) : Calls Try.prog 45 #[.int .i64 a] w fun e w' => e = .returned (.int .u64 ((a.natAbs : Nat) : Int)) ∧ w' = w := by
  have h0 := ha.1
  have h1 := ha.2
  clear ha
  by_cases h : a < 0
  · go_enter Try.func45, Try.ntmps45
    go_wp2
    all_goals go_ret
    refine ⟨ret_int ?_, rfl⟩
    omega
  · go_enter Try.func45, Try.ntmps45
    go_wp2
    all_goals go_ret
    refine ⟨ret_int ?_, rfl⟩
    omega
set_option maxHeartbeats 1000000 in
theorem times_walk (a b : Nat) (ha : a < 18446744073709551616) (hb : b < 18446744073709551616) (w : World) : Calls Try.prog 44 #[.int .u64 (a : Int), .int .u64 (b : Int)] w fun e w' => e = .returned (.agg #[.int .u64 ((a * b / 18446744073709551616 : Nat) : Int), .int .u64 ((a * b % 18446744073709551616 : Nat) : Int)]) ∧ Below w.heap.size w w' := by
  obtain ⟨c1, c2, c3, c4, c5, c6, c7, c8, c9⟩ := times_core a b (a % 4294967296) (a / 4294967296) (b % 4294967296) (b / 4294967296) (by omega) (by omega) (by omega) (by omega) (by omega) (by omega) _ _ _ rfl rfl rfl
  have c10 : a / 4294967296 * (b / 4294967296) + (a / 4294967296 * (b % 4294967296) + a % 4294967296 * (b % 4294967296) / 4294967296) / 4294967296 < 18446744073709551616 := Nat.lt_of_le_of_lt (Nat.le_add_right _ _) c4
  have hH : (a / 4294967296 * (b / 4294967296) + (a / 4294967296 * (b % 4294967296) + a % 4294967296 * (b % 4294967296) / 4294967296) / 4294967296 + (a % 4294967296 * (b / 4294967296) + (a / 4294967296 * (b % 4294967296) + a % 4294967296 * (b % 4294967296) / 4294967296) % 4294967296) / 4294967296) = a * b / 18446744073709551616 := by
    rw [c6]
    generalize (a % 4294967296 * (b / 4294967296) + (a / 4294967296 * (b % 4294967296) + a % 4294967296 * (b % 4294967296) / 4294967296) % 4294967296) * 4294967296 % 18446744073709551616 + a % 4294967296 * (b % 4294967296) % 4294967296 = L at *
    omega
  have hL : ((a % 4294967296 * (b / 4294967296) + (a / 4294967296 * (b % 4294967296) + a % 4294967296 * (b % 4294967296) / 4294967296) % 4294967296) * 4294967296 % 18446744073709551616 + a % 4294967296 * (b % 4294967296) % 4294967296) = a * b % 18446744073709551616 := by
    rw [c6]
    generalize (a % 4294967296 * (b / 4294967296) + (a / 4294967296 * (b % 4294967296) + a % 4294967296 * (b % 4294967296) / 4294967296) % 4294967296) * 4294967296 % 18446744073709551616 + a % 4294967296 * (b % 4294967296) % 4294967296 = L at *
    omega
  have E32 : (4294967296 : Int) = ((4294967296 : Nat) : Int) := rfl
  have HC := Aside0.mk (And.intro c1 (And.intro c2 (And.intro c3 (And.intro c4 (And.intro c5 (And.intro c7 (And.intro c8 (And.intro c9 (And.intro c10 (And.intro hH hL))))))))))
  clear c1 c2 c3 c4 c5 c6 c7 c8 c9 c10 hH hL E32
  go_enter Try.func44, Try.ntmps44
  go_wp2
  obtain ⟨c1, c2, c3, c4, c5, c7, c8, c9, c10, hH, hL⟩ := HC.out
  have mul32 : ∀ n : Nat, (n : Int) * 4294967296 = ((n * 4294967296 : Nat) : Int) := fun n => (Int.natCast_mul n 4294967296).symm
  simp only [maskN a ha, maskN b hb, divN, mulN, addN, wrapN _ c1, wrapN _ c8, wrapN _ c2, maskN _ c2, wrapN _ c9, wrapN _ c3, wrapN _ c7, wrapN _ c10, wrapN _ c4, maskN _ c1, mul32, wrapM, addN, wrapN _ c5]
  simp only [Nat.mod_eq_of_lt c1, Nat.mod_eq_of_lt c2, Nat.mod_eq_of_lt c3, Nat.mod_eq_of_lt c4, Nat.mod_eq_of_lt c5, Nat.mod_eq_of_lt c7, Nat.mod_eq_of_lt c8, Nat.mod_eq_of_lt c9, Nat.mod_eq_of_lt c10, hH, hL]
  generalize ((a * b / 18446744073709551616 : Nat) : Int) = H
  generalize ((a * b % 18446744073709551616 : Nat) : Int) = L
  refine bodyPost_ret (v := .agg #[.int .u64 H, .int .u64 L]) (by simp [results, Try.results44, go_sem]) rfl ⟨rfl, ?_⟩
  repeat (first | exact Below.refl _ _ | refine Below.setCell ?_ (by simp) _ | refine Below.alloc ?_ (by simp) _)
def PtAt (w : World) (b2 b5 : Nat) (hi lo q left : Int) (over : Bool) : Prop := w.heap[b2]? = some (.cells #[.int .u64 hi, .int .u64 lo] 86 (0, 0)) ∧ w.heap[b5]? = some (.cells #[.int .u64 q, .bool over, .int .u64 left] 83 (0, 0))
theorem pt_w5 {wr : World} {b2 b5 : Nat} {hi lo q left : Int} {over : Bool} (h : PtAt wr b2 b5 hi lo q left over) (n25 : b2 ≠ b5) (n52 : b5 ≠ b2) (x0 x1 l' q' : Int) (o' : Bool) :
    PtAt (((((wr.setCell ⟨b2, 0, none⟩ (.int .u64 x0)).setCell ⟨b2, 1, none⟩ (.int .u64 x1)).setCell ⟨b5, 2, none⟩ (.int .u64 l')).setCell ⟨b5, 1, none⟩ (.bool o')).setCell ⟨b5, 0, none⟩ (.int .u64 q')) b2 b5 x0 x1 q' l' o' := by
  obtain ⟨h2, h5⟩ := h
  constructor
  · rw [Below.heap_setCell _ _ _ _ n25, Below.heap_setCell _ _ _ _ n25, Below.heap_setCell _ _ _ _ n25]
    have := blk_set (blk_set h2 0 (.int .u64 x0)) 1 (.int .u64 x1)
    simpa using this
  · have hb : ((wr.setCell ⟨b2, 0, none⟩ (.int .u64 x0)).setCell ⟨b2, 1, none⟩ (.int .u64 x1)).heap[b5]? = some (.cells #[.int .u64 q, .bool over, .int .u64 left] 83 (0, 0)) := by
      rw [Below.heap_setCell _ _ _ _ n52, Below.heap_setCell _ _ _ _ n52]
      exact h5
    have := blk_set (blk_set (blk_set hb 2 (.int .u64 l')) 1 (.bool o')) 0 (.int .u64 q')
    simpa using this
theorem pt_w2 {wr : World} {b2 b5 : Nat} {hi lo q left : Int} {over : Bool} (h : PtAt wr b2 b5 hi lo q left over) (n25 : b2 ≠ b5) (l' q' : Int) :
    PtAt ((wr.setCell ⟨b5, 2, none⟩ (.int .u64 l')).setCell ⟨b5, 0, none⟩ (.int .u64 q')) b2 b5 hi lo q' l' over := by
  obtain ⟨h2, h5⟩ := h
  constructor
  · rw [Below.heap_setCell _ _ _ _ n25, Below.heap_setCell _ _ _ _ n25]
    exact h2
  · have := blk_set (blk_set h5 2 (.int .u64 l')) 0 (.int .u64 q')
    simpa using this
theorem w5_at {wr : World} {b2 b5 i : Nat} (n2 : i ≠ b2) (n5 : i ≠ b5) (u0 u1 u2 u3 u4 : Value) : (((((wr.setCell ⟨b2, 0, none⟩ u0).setCell ⟨b2, 1, none⟩ u1).setCell ⟨b5, 2, none⟩ u2).setCell ⟨b5, 1, none⟩ u3).setCell ⟨b5, 0, none⟩ u4).heap[i]? = wr.heap[i]? := by
  rw [Below.heap_setCell _ _ _ _ n5, Below.heap_setCell _ _ _ _ n5, Below.heap_setCell _ _ _ _ n5, Below.heap_setCell _ _ _ _ n2, Below.heap_setCell _ _ _ _ n2]
theorem w2_at {wr : World} {b5 i : Nat} (n5 : i ≠ b5) (u0 u1 : Value) : ((wr.setCell ⟨b5, 2, none⟩ u0).setCell ⟨b5, 0, none⟩ u1).heap[i]? = wr.heap[i]? := by
  rw [Below.heap_setCell _ _ _ _ n5, Below.heap_setCell _ _ _ _ n5]
theorem w5_below {B : Nat} {w wr : World} {b2 b5 : Nat} (h : Below B w wr) (g2 : B ≤ b2) (g5 : B ≤ b5) (u0 u1 u2 u3 u4 : Value) : Below B w (((((wr.setCell ⟨b2, 0, none⟩ u0).setCell ⟨b2, 1, none⟩ u1).setCell ⟨b5, 2, none⟩ u2).setCell ⟨b5, 1, none⟩ u3).setCell ⟨b5, 0, none⟩ u4) :=
  ((((h.setCell (p := ⟨b2, 0, none⟩) g2 _).setCell (p := ⟨b2, 1, none⟩) g2 _).setCell (p := ⟨b5, 2, none⟩) g5 _).setCell (p := ⟨b5, 1, none⟩) g5 _).setCell (p := ⟨b5, 0, none⟩) g5 _
theorem w2_below {B : Nat} {w wr : World} {b5 : Nat} (h : Below B w wr) (g5 : B ≤ b5) (u0 u1 : Value) : Below B w ((wr.setCell ⟨b5, 2, none⟩ u0).setCell ⟨b5, 0, none⟩ u1) :=
  (h.setCell (p := ⟨b5, 2, none⟩) g5 _).setCell (p := ⟨b5, 0, none⟩) g5 _
theorem q_top (q : Nat) : ((q : Int) / 9223372036854775808 == 1) = (q / 9223372036854775808 == 1) := by
  by_cases h : q / 9223372036854775808 = 1
  · have hI : (q : Int) / 9223372036854775808 = 1 := by omega
    rw [hI, h]
    rfl
  · have hI : (q : Int) / 9223372036854775808 ≠ 1 := by omega
    rw [beq_eq_false_iff_ne.2 hI, beq_eq_false_iff_ne.2 h]
theorem pt_vals (hi lo q left : Nat) (p2 : q * 2 % 18446744073709551616 + 1 < 18446744073709551616) (p8 : hi * 2 % 18446744073709551616 + lo / 9223372036854775808 < 18446744073709551616) :
    IntKind.u64.wrap (IntKind.u64.wrap ((hi : Int) * 2) + (lo : Int) / 9223372036854775808) = ((hi * 2 % 18446744073709551616 + lo / 9223372036854775808 : Nat) : Int) ∧ IntKind.u64.wrap ((lo : Int) * 2) = ((lo * 2 % 18446744073709551616 : Nat) : Int) ∧ (left : Int) * 2 + (hi : Int) / 9223372036854775808 = ((left * 2 + hi / 9223372036854775808 : Nat) : Int) ∧
    IntKind.u64.wrap ((q : Int) * 2) = ((q * 2 % 18446744073709551616 : Nat) : Int) ∧ IntKind.u64.wrap (IntKind.u64.wrap ((q : Int) * 2) + 1) = ((q * 2 % 18446744073709551616 + 1 : Nat) : Int) := by
  simp only [IntKind.wrap_u64]
  refine ⟨by omega, by omega, by omega, by omega, by omega⟩
def PtRel (w : World) (b2 b4 b5 N c : Nat) (v6 : Value) (wr : World) : Prop :=
  ∃ (k hi lo q left : Nat) (over : Bool), v6 = .int .i64 (127 - (k : Int)) ∧ k ≤ 128 ∧ Aside0 (PtOk (N * 2 ^ k) c hi lo q left over) ∧ Aside0 (PtAt wr b2 b5 hi lo q left over) ∧ Aside0 (Below w.heap.size w wr) ∧ Aside0 (wr.heap[b4]? = some (.cells #[.int .u64 0, .bool false, .int .u64 0] 83 (0, 0)))
set_option maxHeartbeats 4000000 in
theorem part_walk (hi lo c : Nat) (h0 : hi < 18446744073709551616) (h1 : lo < 18446744073709551616) (hc0 : 0 < c) (hc : c ≤ 9223372036854775808) (w : World) : Calls Try.prog 43 #[.agg #[.int .u64 (hi : Int), .int .u64 (lo : Int)], .int .u64 (c : Int)] w fun e w' =>
    e = .returned (.agg #[.int .u64 (((hi * 18446744073709551616 + lo) / c % 18446744073709551616 : Nat) : Int), .bool (decide (18446744073709551616 ≤ (hi * 18446744073709551616 + lo) / c)), .int .u64 (((hi * 18446744073709551616 + lo) % c : Nat) : Int)]) ∧ Below w.heap.size w w' := by
  have HP := Aside0.mk (pt_start hi lo c hc0 h0 h1)
  obtain ⟨N, hN⟩ : ∃ N, N = hi * 18446744073709551616 + lo := ⟨_, rfl⟩
  rw [← hN] at HP ⊢
  have HN := Aside0.mk hN
  clear hN
  go_enter Try.func43, Try.ntmps43
  go_wp2_with fail
  have hB0 : Aside0 (Below w.heap.size w (((w.alloc (.cells #[.int .u64 (hi : Int), .int .u64 (lo : Int)] 86)).alloc (.cells #[.int .u64 0, .bool false, .int .u64 0] 83)).alloc (.cells #[.int .u64 0, .bool false, .int .u64 0] 83))) := ⟨(((Below.refl _ _).alloc (Nat.le_refl _) _).alloc (by simp) _).alloc (by simp; omega) _⟩
  have A2 := below_alloc (below_alloc (Below.refl _ (w.alloc (.cells #[.int .u64 (hi : Int), .int .u64 (lo : Int)] 86))) (.cells #[.int .u64 0, .bool false, .int .u64 0] 83)) (.cells #[.int .u64 0, .bool false, .int .u64 0] 83)
  have P2 := (A2.block w.heap.size (by simp)).trans (blk_new w (.cells #[.int .u64 (hi : Int), .int .u64 (lo : Int)] 86))
  have P4 := blk_new (w.alloc (.cells #[.int .u64 (hi : Int), .int .u64 (lo : Int)] 86)) (.cells #[.int .u64 0, .bool false, .int .u64 0] 83)
  have P5 := blk_new ((w.alloc (.cells #[.int .u64 (hi : Int), .int .u64 (lo : Int)] 86)).alloc (.cells #[.int .u64 0, .bool false, .int .u64 0] 83)) (.cells #[.int .u64 0, .bool false, .int .u64 0] 83)
  obtain ⟨b2, hb2⟩ : ∃ b, b = w.heap.size := ⟨_, rfl⟩
  obtain ⟨b4, hb4⟩ : ∃ b, b = w.heap.size + 1 := ⟨_, rfl⟩
  obtain ⟨b5, hb5⟩ : ∃ b, b = w.heap.size + 1 + 1 := ⟨_, rfl⟩
  have P4' : (((w.alloc (.cells #[.int .u64 (hi : Int), .int .u64 (lo : Int)] 86)).alloc (.cells #[.int .u64 0, .bool false, .int .u64 0] 83)).alloc (.cells #[.int .u64 0, .bool false, .int .u64 0] 83)).heap[b4]? = some (.cells #[.int .u64 0, .bool false, .int .u64 0] 83 (0, 0)) := by
    rw [hb4]
    exact ((below_alloc (Below.refl _ _) _).block _ (by simp)).trans (by simpa using P4)
  have P5' : (((w.alloc (.cells #[.int .u64 (hi : Int), .int .u64 (lo : Int)] 86)).alloc (.cells #[.int .u64 0, .bool false, .int .u64 0] 83)).alloc (.cells #[.int .u64 0, .bool false, .int .u64 0] 83)).heap[b5]? = some (.cells #[.int .u64 0, .bool false, .int .u64 0] 83 (0, 0)) := by
    rw [hb5]
    simpa using P5
  rw [← hb2] at P2
  rw [← hb5, ← hb4, ← hb2]
  clear A2 P4 P5
  generalize ((w.alloc (.cells #[.int .u64 (hi : Int), .int .u64 (lo : Int)] 86)).alloc (.cells #[.int .u64 0, .bool false, .int .u64 0] 83)).alloc (.cells #[.int .u64 0, .bool false, .int .u64 0] 83) = w5 at *
  have HP4 := Aside0.mk P4'
  have HPA : Aside0 (PtAt w5 b2 b5 hi lo 0 0 false) := ⟨P2, P5'⟩
  have n25 : b2 ≠ b5 := by omega
  have n52 : b5 ≠ b2 := by omega
  have n24 : b2 ≠ b4 := by omega
  have n45 : b5 ≠ b4 := by omega
  have g2 : w.heap.size ≤ b2 := by omega
  have g5 : w.heap.size ≤ b5 := by omega
  have g4 : w.heap.size ≤ b4 := by omega
  clear P2 P4' P5' hb2 hb4 hb5 h0 h1
  go_loopw [6] (fun v6 wr => PtRel w b2 b4 b5 N c v6 wr) (fun v _ => (intOf v + 1).toNat)
  case atStart => exact ⟨0, hi, lo, 0, 0, false, rfl, by omega, ⟨by simpa using HP.out⟩, HPA, hB0, HP4⟩
  case round =>
    obtain ⟨k, hi', lo', q, left, over, rfl, hk, hP, hA, hB, h4⟩ := hrel
    by_cases hlt : k < 128
    · have k1 : decide (0 ≤ 127 - (k : Int)) = true := by simp; omega
      have c0 := blk_cell hA.out.1 0
      have c1 := blk_cell hA.out.1 1
      have d0 := blk_cell hA.out.2 0
      have d1 := blk_cell hA.out.2 1
      have d2 := blk_cell hA.out.2 2
      have fc0 := blk_frozen hA.out.1 0
      have fc1 := blk_frozen hA.out.1 1
      have fd0 := blk_frozen hA.out.2 0
      have fd1 := blk_frozen hA.out.2 1
      have fd2 := blk_frozen hA.out.2 2
      simp only [List.getElem?_toArray, List.getElem?_cons_zero, List.getElem?_cons_succ] at c0 c1 d0 d1 d2
      obtain ⟨p1, p2, p3, p4, p5, p6, p7, p8, pge, plt⟩ := pt_step hc hP.out
      have hpow : 2 * (N * 2 ^ k) = N * 2 ^ (k + 1) := by rw [Nat.pow_succ, Nat.mul_left_comm 2 N, Nat.mul_comm 2]
      rw [hpow] at pge plt
      have PG := Aside0.mk pge
      have PL := Aside0.mk plt
      obtain ⟨e1, e2, e3, e4, e5⟩ := pt_vals hi' lo' q left p2 p8
      have EE := Aside0.mk (And.intro e1 (And.intro e2 (And.intro e3 (And.intro e4 e5))))
      have n42 : b4 ≠ b2 := Ne.symm n24
      have n54 : b4 ≠ b5 := Ne.symm n45
      clear pge plt e1 e2 e3 e4 e5 hpow
      have fin : ∀ o' : Bool, o' = (over || (q / 9223372036854775808 == 1)) → (left * 2 + hi' / 9223372036854775808 < c → PtRel w b2 b4 b5 N c (.int .i64 (127 - (k : Int) - 1)) (((((wr.setCell ⟨b2, 0, none⟩ (.int .u64 (IntKind.u64.wrap (IntKind.u64.wrap ((hi' : Int) * 2) + (lo' : Int) / 9223372036854775808)))).setCell ⟨b2, 1, none⟩ (.int .u64 (IntKind.u64.wrap ((lo' : Int) * 2)))).setCell ⟨b5, 2, none⟩ (.int .u64 ((left : Int) * 2 + (hi' : Int) / 9223372036854775808))).setCell ⟨b5, 1, none⟩ (.bool o')).setCell ⟨b5, 0, none⟩ (.int .u64 (IntKind.u64.wrap ((q : Int) * 2))))) ∧
        (c ≤ left * 2 + hi' / 9223372036854775808 → PtRel w b2 b4 b5 N c (.int .i64 (127 - (k : Int) - 1)) (((((((wr.setCell ⟨b2, 0, none⟩ (.int .u64 (IntKind.u64.wrap (IntKind.u64.wrap ((hi' : Int) * 2) + (lo' : Int) / 9223372036854775808)))).setCell ⟨b2, 1, none⟩ (.int .u64 (IntKind.u64.wrap ((lo' : Int) * 2)))).setCell ⟨b5, 2, none⟩ (.int .u64 ((left : Int) * 2 + (hi' : Int) / 9223372036854775808))).setCell ⟨b5, 1, none⟩ (.bool o')).setCell ⟨b5, 0, none⟩ (.int .u64 (IntKind.u64.wrap ((q : Int) * 2)))).setCell ⟨b5, 2, none⟩ (.int .u64 ((left : Int) * 2 + (hi' : Int) / 9223372036854775808 - (c : Int)))).setCell ⟨b5, 0, none⟩ (.int .u64 (IntKind.u64.wrap (IntKind.u64.wrap ((q : Int) * 2) + 1))))) := by
        intro o' ho
        obtain ⟨e1, e2, e3, e4, e5⟩ := EE.out
        subst ho
        constructor
        · intro hl
          rw [e1, e2, e3, e4]
          exact ⟨k + 1, _, _, _, _, _, congrArg (Value.int .i64) (by omega), by omega, ⟨PL.out hl⟩, ⟨pt_w5 hA.out n25 n52 _ _ _ _ _⟩, ⟨w5_below hB.out g2 g5 _ _ _ _ _⟩, ⟨(w5_at n42 n54 _ _ _ _ _).trans h4.out⟩⟩
        · intro hl
          have e6 : ((left * 2 + hi' / 9223372036854775808 : Nat) : Int) - (c : Int) = ((left * 2 + hi' / 9223372036854775808 - c : Nat) : Int) := by omega
          rw [e5, e1, e2, e3, e4, e6]
          exact ⟨k + 1, _, _, _, _, _, congrArg (Value.int .i64) (by omega), by omega, ⟨PG.out hl⟩, ⟨pt_w2 (pt_w5 hA.out n25 n52 _ _ _ _ _) n25 _ _⟩, ⟨w2_below (w5_below hB.out g2 g5 _ _ _ _ _) g5 _ _⟩, ⟨(w2_at n54 _ _).trans ((w5_at n42 n54 _ _ _ _ _).trans h4.out)⟩⟩
      have FIN := Aside0.mk fin
      clear fin
      cases over with
      | true =>
        go_wp2_with fail
        · exact ⟨(FIN.out true (by simp)).2 (by omega), by simp [intOf]; omega⟩
        · exact ⟨(FIN.out true (by simp)).1 (by omega), by simp [intOf]; omega⟩
      | false =>
        generalize hq : (q / 9223372036854775808 == 1) = z at FIN
        have hq2 := (q_top q).trans hq
        clear hq
        cases z with
        | true =>
          go_wp2_with fail
          · exact ⟨(FIN.out true rfl).2 (by omega), by simp [intOf]; omega⟩
          · exact ⟨(FIN.out true rfl).1 (by omega), by simp [intOf]; omega⟩
        | false =>
          go_wp2_with fail
          · exact ⟨(FIN.out false rfl).2 (by omega), by simp [intOf]; omega⟩
          · exact ⟨(FIN.out false rfl).1 (by omega), by simp [intOf]; omega⟩
    · have k1 : decide (0 ≤ 127 - (k : Int)) = false := by simp; omega
      have hk2 : k = 128 := by omega
      subst hk2
      have d0 := blk_cell hA.out.2 0
      have d1 := blk_cell hA.out.2 1
      have d2 := blk_cell hA.out.2 2
      have e0 := blk_cell h4.out 0
      have e1 := blk_cell h4.out 1
      have e2 := blk_cell h4.out 2
      have f0 := blk_frozen h4.out 0
      have f1 := blk_frozen h4.out 1
      have f2 := blk_frozen h4.out 2
      simp only [List.getElem?_toArray, List.getElem?_cons_zero, List.getElem?_cons_succ] at d0 d1 d2 e0 e1 e2
      have hP2 := hP.out
      rw [show (2 : Nat) ^ 128 = 340282366920938463463374607431768211456 by rfl] at hP2
      obtain ⟨z1, z2, z3⟩ := pt_end hc0 hP2
      have HZ := Aside0.mk (And.intro z1 (And.intro z2 z3))
      clear z1 z2 z3 hP2 hk hlt
      go_wp2_with fail
      refine bodyPost_ret (v := .agg #[.int .u64 (q : Int), .bool over, .int .u64 (left : Int)]) (by simp [results, Try.results43, go_sem, e0, e1, e2]) rfl ⟨?_, ?_⟩
      · obtain ⟨z1, z2, z3⟩ := HZ.out
        rw [z1, z2, z3]
      · exact ((hB.out.setCell (p := ⟨b4, 0, none⟩) g4 _).setCell (p := ⟨b4, 1, none⟩) g4 _).setCell (p := ⟨b4, 2, none⟩) g4 _
end Go.Proofs.Ytpmbacgdbnfeeaa.B
