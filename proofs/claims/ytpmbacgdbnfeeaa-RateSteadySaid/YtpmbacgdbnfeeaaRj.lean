/-
  Packets of one size, one behind the other at one distance, give their rate: the law, walked.
-/
import Derived.Test.YtpmbacgdbnfeeaaRi
namespace Go.Proofs.Ytpmbacgdbnfeeaa.B
open Go.RowKit Go.Proofs.YtpmbacgdbnfeeaaW.PrintWords Go.Proofs.YtpmbacgdbnfeeaaW.PrintLast Go.Proofs.YtpmbacgdbnfeeaaW.PrintMore
set_option linter.unusedVariables false
set_option linter.unusedSimpArgs false
/-- The packets that are in the window behind the i-th. -/
def stS (W G Z : Int) : Nat → Mt
  | 0 => Mt.made W
  | i + 1 => (stS W G Z i).got (i * G) Z
def stL (G Z : Int) (a n : Nat) : List Smp := (List.range' a n).map (fun (j : Nat) => ((j : Int) * G, Z))
theorem stL_snoc (G Z : Int) (a n : Nat) : stL G Z a n ++ [(((a + n : Nat) : Int) * G, Z)] = stL G Z a (n + 1) := by
  unfold stL
  rw [List.range'_concat]
  simp
theorem stL_cons (G Z : Int) (a n : Nat) : stL G Z a (n + 1) = ((a : Int) * G, Z) :: stL G Z (a + 1) n := by
  unfold stL
  rw [List.range'_succ]
  rfl
theorem stL_sum (G Z : Int) (a n : Nat) : sumS (stL G Z a n) = n * Z := by
  induction n generalizing a with
  | zero => simp [stL, sumS]
  | succ n ih =>
    rw [stL_cons, sumS_cons, ih, Int.natCast_succ, Int.add_mul]
    omega
theorem stL_mem {G Z : Int} {a n : Nat} {p : Smp} (h : p ∈ stL G Z a n) : ∃ j : Nat, a ≤ j ∧ j < a + n ∧ p.1 = (j : Int) * G := by
  unfold stL at h
  obtain ⟨j, hj, e⟩ := List.mem_map.1 h
  rw [List.mem_range'_1] at hj
  exact ⟨j, hj.1, hj.2, by rw [← e]⟩
theorem mulG {G : Int} {a b : Nat} (hG : 1 ≤ G) (h : a < b) : (a : Int) * G < (b : Int) * G := by
  have := Int.mul_lt_mul_of_pos_right (show (a : Int) < b by omega) (show 0 < G by omega)
  exact this
theorem stL_filter {G Z : Int} {a n : Nat} {e : Int} (hG : 1 ≤ G) (h : e < (a : Int) * G) : (stL G Z a n).filter (fun p => decide (e < p.1)) = stL G Z a n := by
  rw [List.filter_eq_self]
  intro p hp
  obtain ⟨j, h1, h2, h3⟩ := stL_mem hp
  rw [h3]
  refine decide_eq_true ?_
  by_cases hj : a = j
  · rw [← hj]; exact h
  · have := mulG hG (show a < j by omega)
    omega
structure StIs (K : Nat) (G Z : Int) (s : Mt) (i : Nat) : Prop where
  w : s.window = G * K
  any : s.any = true
  first : s.first = 0
  last : s.last = (i : Int) * G
  l : s.l = if i < K then stL G Z 0 (i + 1) else stL G Z (i + 1 - K) K
theorem stS_is (K : Nat) (G Z : Int) (hK : 1 ≤ K) (hG : 1 ≤ G) (hG2 : G ≤ 1000000) (hZ : 0 ≤ Z ∧ Z ≤ 1500) : ∀ i, i ≤ 1000 → StIs K G Z (stS (G * K) G Z (i + 1)) i := by
  intro i
  have hgood : ∀ i : Nat, i ≤ 1000 → goodS ((i : Int) * G) Z = true := by
    intro i hi
    have h0 : 0 ≤ (i : Int) * G := Int.mul_nonneg (by omega) (by omega)
    have h1 : (i : Int) * G ≤ 1000 * 1000000 := Int.mul_le_mul (by omega) hG2 (by omega) (by omega)
    simp only [goodS, decide_eq_true_eq]
    omega
  induction i with
  | zero =>
    intro _
    show StIs K G Z ((Mt.made (G * K)).got (((0 : Nat) : Int) * G) Z) 0
    have hg0 := hgood 0 (by omega)
    have hKG := Int.mul_lt_mul_of_pos_left (show (0 : Int) < K by omega) (show 0 < G by omega)
    rw [Int.mul_zero] at hKG
    rw [Mt.got, if_pos hg0]
    have z : ((0 : Nat) : Int) * G = 0 := by simp
    rw [z]
    refine ⟨rfl, rfl, rfl, by rw [z]; rfl, ?_⟩
    show (([] : List Smp) ++ [((0 : Int), Z)]).filter (fun p => decide ((0 : Int) - G * K < p.1)) = _
    rw [if_pos (by omega), stL_cons, List.nil_append, List.filter_cons_of_pos (p := fun p : Smp => decide ((0 : Int) - G * K < p.1)) (decide_eq_true (show (0 : Int) - G * K < 0 by omega)), z]
    rfl
  | succ i ih =>
    intro hi
    have h := ih (by omega)
    show StIs K G Z ((stS (G * K) G Z (i + 1)).got _ Z) (i + 1)
    rw [Mt.got, if_pos (hgood (i + 1) (by omega))]
    generalize stS (G * K) G Z (i + 1) = s at *
    have hlt := mulG hG (show i < i + 1 by omega)
    have hnn : 0 ≤ ((i + 1 : Nat) : Int) * G := Int.mul_nonneg (by omega) (by omega)
    have el : s.lastOf (((i + 1 : Nat) : Int) * G) = ((i + 1 : Nat) : Int) * G := by
      unfold Mt.lastOf
      rw [if_pos h.any, h.last]
      omega
    refine ⟨h.w, rfl, ?_, el, ?_⟩
    · show s.firstOf _ = 0
      unfold Mt.firstOf
      rw [if_pos h.any, h.first]
      omega
    · show (s.l ++ [(((i + 1 : Nat) : Int) * G, Z)]).filter _ = _
      rw [el, h.w, h.l]
      have hW : ((i + 1 : Nat) : Int) * G - G * K = (((i + 1 : Nat) : Int) - K) * G := by rw [Int.sub_mul, Int.mul_comm G]
      rw [hW]
      by_cases h1 : i < K
      · rw [if_pos h1]
        have e1 := stL_snoc G Z 0 (i + 1)
        rw [Nat.zero_add] at e1
        rw [e1]
        by_cases h2 : i + 1 < K
        · rw [if_pos h2]
          refine stL_filter hG ?_
          have := Int.mul_lt_mul_of_pos_right (show (((i + 1 : Nat) : Int) - K) < 0 by omega) (show 0 < G by omega)
          omega
        · rw [if_neg h2]
          obtain rfl : K = i + 1 := by omega
          rw [show i + 1 + 1 - (i + 1) = 1 by omega, stL_cons, List.filter_cons_of_neg (by simp)]
          refine stL_filter hG ?_
          rw [Int.sub_self, Int.zero_mul]
          omega
      · rw [if_neg h1, if_neg (by omega)]
        obtain ⟨a, ha⟩ : ∃ a, i + 1 - K = a := ⟨_, rfl⟩
        obtain ⟨m, hm⟩ : ∃ m, K = m + 1 := ⟨K - 1, by omega⟩
        have e1 := stL_snoc G Z a K
        rw [show a + K = i + 1 by omega] at e1
        rw [ha, e1, stL_cons, show i + 1 + 1 - K = a + 1 by omega, show (((i + 1 : Nat) : Int) - K) = (a : Int) by omega, List.filter_cons_of_neg (by simp)]
        exact stL_filter hG (mulG hG (by omega))
theorem stS_end (K : Nat) (G Z : Int) (hK : 1 ≤ K) (hK2 : K ≤ 50) (hG : 1 ≤ G) (hG2 : G ≤ 1000000) (hZ : 0 ≤ Z ∧ Z ≤ 1500) : (stS (G * K) G Z (2 * K + 1)).full = true ∧ sumS (stS (G * K) G Z (2 * K + 1)).l = K * Z ∧ (stS (G * K) G Z (2 * K + 1)).rate = K * Z * 8000000 / (G * K) := by
  have h := stS_is K G Z hK hG hG2 hZ (2 * K) (by omega)
  generalize stS (G * K) G Z (2 * K + 1) = s at *
  have hKG := Int.mul_lt_mul_of_pos_left (show (0 : Int) < K by omega) (show 0 < G by omega)
  have hf : s.full = true := by
    unfold Mt.full
    rw [h.any, h.w, h.last, h.first]
    simp only [Bool.true_and, decide_eq_true_eq]
    rw [show ((2 * K : Nat) : Int) * G = G * K + G * K by rw [Int.natCast_mul, Int.mul_assoc, Int.mul_comm (K : Int) G]; omega]
    omega
  have hs : sumS s.l = K * Z := by rw [h.l, if_neg (by omega), stL_sum]
  refine ⟨hf, hs, ?_⟩
  unfold Mt.rate
  rw [if_pos h.any, if_pos hf, hs, h.w, mdo_down _ _ _ (by omega)]
  have a0 : 0 ≤ (K : Int) * Z := Int.mul_nonneg (by omega) hZ.1
  have a1 : (K : Int) * Z ≤ 50 * 1500 := Int.mul_le_mul (by omega) hZ.2 hZ.1 (by omega)
  generalize (K : Int) * Z = S at *
  generalize G * (K : Int) = D at *
  have b0 : 0 ≤ S * 8000000 / D := Int.ediv_nonneg (by omega) (by omega)
  have b1 : S * 8000000 / D ≤ S * 8000000 := Int.ediv_le_self _ (by omega)
  exact hold_in (by omega) (by omega)
def StRel (w1 : World) (base g : Nat) (K : Nat) (G Z : Int) (v : Value) (wr : World) : Prop := ∃ i : Nat, v = .int .i64 i ∧ i ≤ 2 * K + 1 ∧ Aside0 (MtOk (stS (G * K) G Z i) i) ∧ Aside0 (MRun w1 wr base g (stS (G * K) G Z i))
set_option maxHeartbeats 8000000 in
set_option maxRecDepth 100000 in
theorem steady_true (size gap n : Int) (w : World) (h1 : U16 size) (h2 : U16 gap) (h3 : I64 n) : Calls Try.prog 5 #[.int .u16 size, .int .u16 gap, .int .i64 n] w fun e w' => e = .returned (.bool true) ∧ Below w.heap.size w w' := by
  have KN := Aside0.mk (fun w => kmod_any n 50 h3 (by omega) (by omega) w)
  obtain ⟨N, hN⟩ : ∃ N : Nat, (N : Int) = n % 50 := ⟨(n % 50).toNat, by omega⟩
  rw [← hN] at KN
  have hN2 : N ≤ 49 := by omega
  obtain ⟨s0, s1⟩ := h1
  obtain ⟨g0, g1⟩ := h2
  clear h3 hN
  go_enter Try.func5, Try.ntmps5
  go_wp2_with fail
  refine (KN.out _).mono ?_
  rintro e w ⟨rfl, rfl⟩
  obtain ⟨Z, hZ⟩ : ∃ Z, Z = 1 + size % 1500 := ⟨_, rfl⟩
  obtain ⟨G, hG⟩ : ∃ G, G = 100 + gap % 20000 := ⟨_, rfl⟩
  obtain ⟨K, hK⟩ : ∃ K : Nat, (K : Int) = 1 + (N : Int) := ⟨1 + N, by omega⟩
  have hZ0 : 1 ≤ Z := by omega
  have hZ1 : Z ≤ 1500 := by omega
  have hG0 : 100 ≤ G := by omega
  have hG1 : G ≤ 20099 := by omega
  have hK0 : 1 ≤ K := by omega
  have hK1 : K ≤ 50 := by omega
  rw [← hZ, ← hG]
  have HK := Aside0.mk hK
  clear hZ hG hK
  have w0 : 100 * 1 ≤ G * (K : Int) := Int.mul_le_mul hG0 (by omega) (by omega) (by omega)
  have w1 : G * (K : Int) ≤ 20099 * 50 := Int.mul_le_mul hG1 (by omega) (by omega) (by omega)
  go_wp2_with fail
  rw [← HK.out]
  obtain ⟨W, hW⟩ : ∃ W, W = G * (K : Int) := ⟨_, rfl⟩
  rw [← hW] at w0 w1 ⊢
  rw [show wrap64 W = W by unfold wrap64; omega]
  have HW := Aside0.mk hW
  clear hW
  refine (mnew_good W w.heap.size w (by omega) (by omega) (Nat.le_refl _)).mono ?_
  rintro e w1 ⟨g, rfl, hM, hg, hB⟩
  have hB0 := hB.size
  have HR := Aside0.mk (MRun.start hM)
  have HB := Aside0.mk hB
  clear hM hB
  have E0 := stS_end K G Z hK0 hK1 (by omega) (by omega) ⟨by omega, hZ1⟩
  rw [← HW.out] at E0
  have HE := Aside0.mk E0
  clear E0
  go_wp2_with fail
  go_loopw [13] (fun v wr => StRel w1 w.heap.size g K G Z v wr) (fun v _ => 2 * K + 1 - (intOf v).toNat)
  case atStart => exact ⟨0, rfl, by omega, ⟨by rw [← HW.out]; exact made_okM (by omega) (by omega)⟩, ⟨by rw [← HW.out]; exact HR.out⟩⟩
  case round =>
    obtain ⟨i, rfl, hi, hO, hS⟩ := hrel
    rw [← HW.out] at hO hS
    by_cases hlt : i < 2 * K + 1
    · have q0 : decide ((i : Int) < 2 * (K : Int) + 1) = true := decide_eq_true (by omega)
      have r0 : 0 ≤ (i : Int) * G := Int.mul_nonneg (by omega) (by omega)
      have r1 : (i : Int) * G ≤ 101 * 20099 := Int.mul_le_mul (by omega) hG1 (by omega) (by omega)
      go_wp2_with fail
      refine (mrun_got ((i : Int) * G) Z hS.out hO.out (by omega)).mono ?_
      rintro e w3 ⟨rfl, h3⟩
      have H3 : Aside0 (MRun w1 w3 w.heap.size g (stS W G Z (i + 1))) := ⟨h3⟩
      have O3 : Aside0 (MtOk (stS W G Z (i + 1)) (i + 1)) := ⟨hO.out.got _ _⟩
      clear h3
      go_wp2_with fail
      exact ⟨⟨i + 1, by simp, by omega, ⟨by rw [← HW.out]; exact O3.out⟩, ⟨by rw [← HW.out]; exact H3.out⟩⟩, by simp [intOf]; omega⟩
    · have q0 : decide ((i : Int) < 2 * (K : Int) + 1) = false := decide_eq_false (by omega)
      obtain rfl : i = 2 * K + 1 := by omega
      obtain ⟨s, hs⟩ : ∃ s, s = stS W G Z (2 * K + 1) := ⟨_, rfl⟩
      rw [← hs] at HE hO hS
      clear hs
      have hsum := hO.out.sum
      have HS2 := Aside0.mk (hS.out.below ((Below.refl _ _).drew))
      have hKZ0 : 0 ≤ (K : Int) * Z := Int.mul_nonneg (by omega) (by omega)
      have hKZ1 : (K : Int) * Z ≤ 50 * 1500 := Int.mul_le_mul (by omega) hZ1 (by omega) (by omega)
      obtain ⟨V, hV⟩ : ∃ V, V = (K : Int) * Z := ⟨_, rfl⟩
      obtain ⟨X, hX⟩ : ∃ X, X = V * 8000000 / W := ⟨_, rfl⟩
      have hf := HE.out.1
      have hb := HE.out.2.1
      have hr := HE.out.2.2
      rw [← hV] at hb hr hKZ0 hKZ1
      rw [← hX] at hr
      have CF : Aside0 (∀ w', MRun w1 w' w.heap.size g s → Calls Try.prog 18 #[.pointer (some ⟨g, 0, none⟩)] w' fun e w'' => e = .returned (.bool true) ∧ MRun w1 w'' w.heap.size g s) := ⟨fun w' h => (mrun_full h hO.out).mono fun e w'' ⟨h1, h2, _⟩ => ⟨by rw [h1, hf], h2⟩⟩
      have CB : Aside0 (∀ w', MRun w1 w' w.heap.size g s → Calls Try.prog 16 #[.pointer (some ⟨g, 0, none⟩)] w' fun e w'' => e = .returned (.int .i64 V) ∧ MRun w1 w'' w.heap.size g s) := ⟨fun w' h => (mrun_bytes h).mono fun e w'' ⟨h1, h2, _⟩ => ⟨by rw [h1, hb], h2⟩⟩
      have CR : Aside0 (∀ w', MRun w1 w' w.heap.size g s → Calls Try.prog 14 #[.pointer (some ⟨g, 0, none⟩)] w' fun e w'' => e = .returned (.int .i64 X) ∧ MRun w1 w'' w.heap.size g s) := ⟨fun w' h => (mrun_rate h hO.out (by omega)).mono fun e w'' ⟨h1, h2, _⟩ => ⟨by rw [h1, hr], h2⟩⟩
      have CW : Aside0 (∀ w', MRun w1 w' w.heap.size g s → Calls Try.prog 22 #[] w' fun e w'' => e = .returned (.bool true) ∧ MRun w1 w'' w.heap.size g s) := ⟨fun w' h => (wakes_any w').mono fun e w'' ⟨h1, h2⟩ => ⟨h1, h.below h2⟩⟩
      have HV := Aside0.mk hV
      have HX := Aside0.mk hX
      obtain ⟨U, hU⟩ : ∃ U, U = V * 8000000 := ⟨_, rfl⟩
      have hU0 : 0 ≤ U := by omega
      have e1 : wrap64 ((K : Int) * Z) = V := by rw [← hV]; unfold wrap64; omega
      have e2 : wrap64 (V * 8000000) = U := by rw [hU]; unfold wrap64; omega
      have e3 : U / W = X := by rw [hX, hU]
      have e4 : U.tdiv W = X := by rw [Int.tdiv_eq_ediv_of_nonneg hU0, e3]
      have hX0 : 0 ≤ X := by rw [← e3]; exact Int.ediv_nonneg hU0 (by omega)
      have hX1 : X ≤ U := by rw [← e3]; exact Int.ediv_le_self _ hU0
      have e5 : wrap64 X = X := by unfold wrap64; omega
      have e6 : IntKind.i64.wrap X = X := by rw [i64_w]; exact e5
      have q6 : ¬ W = 0 := by omega
      have q5 : (W == 0) = false := beq_eq_false_iff_ne.2 (by omega)
      clear hf hb hr hV hX hsum hU
      go_wp2_with fail
      refine start_ (n := 25) (S := fun w' => Aside0 (MRun w1 w' w.heap.size g s)) (ds := []) #[false, false, false, false, false, false, false, false, false, false, false, false, false, false, false, false, false, false, false, false, false, false, false, false, false] (by kernel_rfl) rfl rfl (⟨HS2.out⟩) (fun hHeld => ?_)
      refine pure_ (i := 0) (N := some 48) (v := ?_) (a' := ?_) #[true, false, false, false, false, false, false, false, false, false, false, false, false, false, false, false, false, false, false, false, false, false, false, false, false] rfl rfl (by kernel_rfl) (fun _ _ _ h => h) (Or.inl ⟨by rfl, ?_⟩) ?_ ?_
      rotate_left
      · intro w'
        go_simp
        with_reducible rfl
      rotate_left
      · simp only [Act.put, List.setIfInBounds_toArray, List.set_cons_zero, List.set_cons_succ, i64_w, i32_w]
        rfl
      refine one_ (i := 1) (N := some 49) #[true, true, false, false, false, false, false, false, false, false, false, false, false, false, false, false, false, false, false, false, false, false, false, false, false] rfl rfl (by kernel_rfl) (by decide) (fun K hK => ?_)
      refine goes_ Try.func18 (by kernel_rfl) rfl #[.pointer (some ⟨g, 0, none⟩)] (by rfl) rfl rfl (by simp only [List.map_toArray, List.map_cons, List.map_nil]; rfl) ?_
      with_reducible refine (CF.out _ hHeld.out).mono ?_
      rintro e w3 ⟨rfl, hb⟩
      refine ⟨_, rfl, ?_⟩
      have hB := Aside0.mk hb
      clear hb
      refine hK.out _ _ (hB) (fun hHeld => ?_)
      clear hK K
      refine norm_ (a' := ?_) ?_ ?_
      rotate_left
      · show Act.put _ (some 49) _ = _
        simp only [Act.put, List.setIfInBounds_toArray, List.set_cons_zero, List.set_cons_succ, i64_w, i32_w]
        rfl
      refine pure_ (i := 2) (N := some 50) (v := ?_) (a' := ?_) #[true, true, true, false, false, false, false, false, false, false, false, false, false, false, false, false, false, false, false, false, false, false, false, false, false] rfl rfl (by kernel_rfl) (fun _ _ _ h => h) (Or.inl ⟨by rfl, ?_⟩) ?_ ?_
      rotate_left
      · intro w'
        go_simp
        with_reducible rfl
      rotate_left
      · simp only [Act.put, List.setIfInBounds_toArray, List.set_cons_zero, List.set_cons_succ, i64_w, i32_w]
        rfl
      refine pure_ (i := 3) (N := some 51) (v := ?_) (a' := ?_) #[true, true, true, true, false, false, false, false, false, false, false, false, false, false, false, false, false, false, false, false, false, false, false, false, false] rfl rfl (by kernel_rfl) (fun _ _ _ h => h) (Or.inl ⟨by rfl, ?_⟩) ?_ ?_
      rotate_left
      · intro w'
        go_simp
        with_reducible rfl
      rotate_left
      · simp only [Act.put, List.setIfInBounds_toArray, List.set_cons_zero, List.set_cons_succ, i64_w, i32_w]
        rfl
      refine pure_ (i := 5) (N := some 53) (v := ?_) (a' := ?_) #[true, true, true, true, false, true, false, false, false, false, false, false, false, false, false, false, false, false, false, false, false, false, false, false, false] rfl rfl (by kernel_rfl) (fun _ _ _ h => h) (Or.inl ⟨by rfl, ?_⟩) ?_ ?_
      rotate_left
      · intro w'
        go_simp
        with_reducible rfl
      rotate_left
      · simp only [Act.put, List.setIfInBounds_toArray, List.set_cons_zero, List.set_cons_succ, i64_w, i32_w]
        rfl
      refine pure_ (i := 6) (N := some 54) (v := ?_) (a' := ?_) #[true, true, true, true, false, true, true, false, false, false, false, false, false, false, false, false, false, false, false, false, false, false, false, false, false] rfl rfl (by kernel_rfl) (fun _ _ _ h => h) (Or.inl ⟨by rfl, ?_⟩) ?_ ?_
      rotate_left
      · intro w'
        go_simp
        with_reducible rfl
      rotate_left
      · simp only [Act.put, List.setIfInBounds_toArray, List.set_cons_zero, List.set_cons_succ, i64_w, i32_w]
        rfl
      refine pure_ (i := 7) (N := some 55) (v := ?_) (a' := ?_) #[true, true, true, true, false, true, true, true, false, false, false, false, false, false, false, false, false, false, false, false, false, false, false, false, false] rfl rfl (by kernel_rfl) (fun _ _ _ h => h) (Or.inl ⟨by rfl, ?_⟩) ?_ ?_
      rotate_left
      · intro w'
        go_simp
        with_reducible rfl
      rotate_left
      · simp only [Act.put, List.setIfInBounds_toArray, List.set_cons_zero, List.set_cons_succ, i64_w, i32_w]
        rfl
      refine one_ (i := 4) (N := some 52) #[true, true, true, true, true, true, true, true, false, false, false, false, false, false, false, false, false, false, false, false, false, false, false, false, false] rfl rfl (by kernel_rfl) (by decide) (fun K hK => ?_)
      refine goes_ Try.func16 (by kernel_rfl) rfl #[.pointer (some ⟨g, 0, none⟩)] (by rfl) rfl rfl (by simp only [List.map_toArray, List.map_cons, List.map_nil]; rfl) ?_
      with_reducible refine (CB.out _ hHeld.out).mono ?_
      rintro e w3 ⟨rfl, hb⟩
      refine ⟨_, rfl, ?_⟩
      have hB := Aside0.mk hb
      clear hb
      refine hK.out _ _ (hB) (fun hHeld => ?_)
      clear hK K
      refine norm_ (a' := ?_) ?_ ?_
      rotate_left
      · show Act.put _ (some 52) _ = _
        simp only [Act.put, List.setIfInBounds_toArray, List.set_cons_zero, List.set_cons_succ, i64_w, i32_w]
        rfl
      refine pure_ (i := 8) (N := some 56) (v := ?_) (a' := ?_) #[true, true, true, true, true, true, true, true, true, false, false, false, false, false, false, false, false, false, false, false, false, false, false, false, false] rfl rfl (by kernel_rfl) (fun _ _ _ h => h) (Or.inl ⟨by rfl, ?_⟩) ?_ ?_
      rotate_left
      · intro w'
        go_simp
        with_reducible rfl
      rotate_left
      · simp only [Act.put, List.setIfInBounds_toArray, List.set_cons_zero, List.set_cons_succ, i64_w, i32_w]
        rfl
      refine pure_ (i := 9) (N := some 57) (v := ?_) (a' := ?_) #[true, true, true, true, true, true, true, true, true, true, false, false, false, false, false, false, false, false, false, false, false, false, false, false, false] rfl rfl (by kernel_rfl) (fun _ _ _ h => h) (Or.inl ⟨by rfl, ?_⟩) ?_ ?_
      rotate_left
      · intro w'
        go_simp
        with_reducible rfl
      rotate_left
      · simp only [Act.put, List.setIfInBounds_toArray, List.set_cons_zero, List.set_cons_succ, i64_w, i32_w]
        rfl
      refine pure_ (i := 10) (N := some 58) (v := ?_) (a' := ?_) #[true, true, true, true, true, true, true, true, true, true, true, false, false, false, false, false, false, false, false, false, false, false, false, false, false] rfl rfl (by kernel_rfl) (fun _ _ _ h => h) (Or.inl ⟨by rfl, ?_⟩) ?_ ?_
      rotate_left
      · intro w'
        go_simp
        with_reducible rfl
      rotate_left
      · simp only [Act.put, List.setIfInBounds_toArray, List.set_cons_zero, List.set_cons_succ, i64_w, i32_w]
        rfl
      refine pure_ (i := 11) (N := some 59) (v := ?_) (a' := ?_) #[true, true, true, true, true, true, true, true, true, true, true, true, false, false, false, false, false, false, false, false, false, false, false, false, false] rfl rfl (by kernel_rfl) (fun _ _ _ h => h) (Or.inl ⟨by rfl, ?_⟩) ?_ ?_
      rotate_left
      · intro w'
        go_simp
        with_reducible rfl
      rotate_left
      · simp only [Act.put, List.setIfInBounds_toArray, List.set_cons_zero, List.set_cons_succ, i64_w, i32_w]
        rfl
      refine pure_ (i := 13) (N := some 61) (v := ?_) (a' := ?_) #[true, true, true, true, true, true, true, true, true, true, true, true, false, true, false, false, false, false, false, false, false, false, false, false, false] rfl rfl (by kernel_rfl) (fun _ _ _ h => h) (Or.inl ⟨by rfl, ?_⟩) ?_ ?_
      rotate_left
      · intro w'
        go_simp
        with_reducible rfl
      rotate_left
      · simp only [Act.put, List.setIfInBounds_toArray, List.set_cons_zero, List.set_cons_succ, i64_w, i32_w]
        rfl
      refine pure_ (i := 14) (N := some 62) (v := ?_) (a' := ?_) #[true, true, true, true, true, true, true, true, true, true, true, true, false, true, true, false, false, false, false, false, false, false, false, false, false] rfl rfl (by kernel_rfl) (fun _ _ _ h => h) (Or.inl ⟨by rfl, ?_⟩) ?_ ?_
      rotate_left
      · intro w'
        go_simp
        with_reducible rfl
      rotate_left
      · simp only [Act.put, List.setIfInBounds_toArray, List.set_cons_zero, List.set_cons_succ, i64_w, i32_w]
        rfl
      refine pure_ (i := 15) (N := some 63) (v := ?_) (a' := ?_) #[true, true, true, true, true, true, true, true, true, true, true, true, false, true, true, true, false, false, false, false, false, false, false, false, false] rfl rfl (by kernel_rfl) (fun _ _ _ h => h) (Or.inl ⟨by rfl, ?_⟩) ?_ ?_
      rotate_left
      · intro w'
        go_simp
        with_reducible rfl
      rotate_left
      · simp only [Act.put, List.setIfInBounds_toArray, List.set_cons_zero, List.set_cons_succ, i64_w, i32_w]
        rfl
      refine pure_ (i := 16) (N := some 64) (v := ?_) (a' := ?_) #[true, true, true, true, true, true, true, true, true, true, true, true, false, true, true, true, true, false, false, false, false, false, false, false, false] rfl rfl (by kernel_rfl) (fun _ _ _ h => h) (Or.inl ⟨by rfl, ?_⟩) ?_ ?_
      rotate_left
      · intro w'
        go_simp
        with_reducible rfl
      rotate_left
      · simp only [Act.put, List.setIfInBounds_toArray, List.set_cons_zero, List.set_cons_succ, i64_w, i32_w]
        rfl
      refine pure_ (i := 17) (N := some 65) (v := ?_) (a' := ?_) #[true, true, true, true, true, true, true, true, true, true, true, true, false, true, true, true, true, true, false, false, false, false, false, false, false] rfl rfl (by kernel_rfl) (fun _ _ _ h => h) (Or.inl ⟨by rfl, ?_⟩) ?_ ?_
      rotate_left
      · intro w'
        go_simp
        with_reducible rfl
      rotate_left
      · simp only [Act.put, List.setIfInBounds_toArray, List.set_cons_zero, List.set_cons_succ, i64_w, i32_w]
        rfl
      refine pure_ (i := 18) (N := some 66) (v := ?_) (a' := ?_) #[true, true, true, true, true, true, true, true, true, true, true, true, false, true, true, true, true, true, true, false, false, false, false, false, false] rfl rfl (by kernel_rfl) (fun _ _ _ h => h) (Or.inl ⟨by rfl, ?_⟩) ?_ ?_
      rotate_left
      · intro w'
        go_simp
        with_reducible rfl
      rotate_left
      · simp only [Act.put, List.setIfInBounds_toArray, List.set_cons_zero, List.set_cons_succ, i64_w, i32_w]
        rfl
      refine one_ (i := 12) (N := some 60) #[true, true, true, true, true, true, true, true, true, true, true, true, true, true, true, true, true, true, true, false, false, false, false, false, false] rfl rfl (by kernel_rfl) (by decide) (fun K hK => ?_)
      refine goes_ Try.func14 (by kernel_rfl) rfl #[.pointer (some ⟨g, 0, none⟩)] (by rfl) rfl rfl (by simp only [List.map_toArray, List.map_cons, List.map_nil]; rfl) ?_
      with_reducible refine (CR.out _ hHeld.out).mono ?_
      rintro e w3 ⟨rfl, hb⟩
      refine ⟨_, rfl, ?_⟩
      have hB := Aside0.mk hb
      clear hb
      refine hK.out _ _ (hB) (fun hHeld => ?_)
      clear hK K
      refine norm_ (a' := ?_) ?_ ?_
      rotate_left
      · show Act.put _ (some 60) _ = _
        simp only [Act.put, List.setIfInBounds_toArray, List.set_cons_zero, List.set_cons_succ, i64_w, i32_w]
        rfl
      refine pure_ (i := 19) (N := some 67) (v := ?_) (a' := ?_) #[true, true, true, true, true, true, true, true, true, true, true, true, true, true, true, true, true, true, true, true, false, false, false, false, false] rfl rfl (by kernel_rfl) (fun _ _ _ h => h) (Or.inl ⟨by rfl, ?_⟩) ?_ ?_
      rotate_left
      · intro w'
        go_simp
        with_reducible rfl
      rotate_left
      · simp only [Act.put, List.setIfInBounds_toArray, List.set_cons_zero, List.set_cons_succ, i64_w, i32_w]
        rfl
      refine pure_ (i := 20) (N := some 68) (v := ?_) (a' := ?_) #[true, true, true, true, true, true, true, true, true, true, true, true, true, true, true, true, true, true, true, true, true, false, false, false, false] rfl rfl (by kernel_rfl) (fun _ _ _ h => h) (Or.inl ⟨by rfl, ?_⟩) ?_ ?_
      rotate_left
      · intro w'
        go_simp
        with_reducible rfl
      rotate_left
      · simp only [Act.put, List.setIfInBounds_toArray, List.set_cons_zero, List.set_cons_succ, i64_w, i32_w]
        rfl
      refine pure_ (i := 21) (N := some 69) (v := ?_) (a' := ?_) #[true, true, true, true, true, true, true, true, true, true, true, true, true, true, true, true, true, true, true, true, true, true, false, false, false] rfl rfl (by kernel_rfl) (fun _ _ _ h => h) (Or.inl ⟨by rfl, ?_⟩) ?_ ?_
      rotate_left
      · intro w'
        go_simp
        with_reducible rfl
      rotate_left
      · simp only [Act.put, List.setIfInBounds_toArray, List.set_cons_zero, List.set_cons_succ, i64_w, i32_w]
        rfl
      refine one_ (i := 22) (N := some 70) #[true, true, true, true, true, true, true, true, true, true, true, true, true, true, true, true, true, true, true, true, true, true, true, false, false] rfl rfl (by kernel_rfl) (by decide) (fun K hK => ?_)
      refine goes_ Try.func22 (by kernel_rfl) rfl #[] (by rfl) rfl rfl (by simp only [List.map_toArray, List.map_nil]) ?_
      with_reducible refine (CW.out _ hHeld.out).mono ?_
      rintro e w3 ⟨rfl, hb⟩
      refine ⟨_, rfl, ?_⟩
      have hB := Aside0.mk hb
      clear hb
      refine hK.out _ _ (hB) (fun hHeld => ?_)
      clear hK K
      refine norm_ (a' := ?_) ?_ ?_
      rotate_left
      · show Act.put _ (some 70) _ = _
        simp only [Act.put, List.setIfInBounds_toArray, List.set_cons_zero, List.set_cons_succ, i64_w, i32_w]
        rfl
      refine pure_ (i := 23) (N := some 71) (v := ?_) (a' := ?_) #[true, true, true, true, true, true, true, true, true, true, true, true, true, true, true, true, true, true, true, true, true, true, true, true, false] rfl rfl (by kernel_rfl) (fun _ _ _ h => h) (Or.inl ⟨by rfl, ?_⟩) ?_ ?_
      rotate_left
      · intro w'
        go_simp
        with_reducible rfl
      rotate_left
      · simp only [Act.put, List.setIfInBounds_toArray, List.set_cons_zero, List.set_cons_succ, i64_w, i32_w]
        rfl
      refine pure_ (i := 24) (N := some 6) (v := ?_) (a' := ?_) #[true, true, true, true, true, true, true, true, true, true, true, true, true, true, true, true, true, true, true, true, true, true, true, true, true] rfl rfl (by kernel_rfl) (fun _ _ _ h => h) (Or.inl ⟨by rfl, ?_⟩) ?_ ?_
      rotate_left
      · intro w'
        go_simp
        with_reducible rfl
      rotate_left
      · simp only [Act.put, List.setIfInBounds_toArray, List.set_cons_zero, List.set_cons_succ, i64_w, i32_w]
        rfl
      refine done_ (by kernel_rfl) ?_
      go_wp2_with fail
      go_ret
      exact ⟨rfl, HB.out.trans (hHeld.out.touch.toBelow HB.out.size (fun i hi => by omega))⟩
end Go.Proofs.Ytpmbacgdbnfeeaa.B
