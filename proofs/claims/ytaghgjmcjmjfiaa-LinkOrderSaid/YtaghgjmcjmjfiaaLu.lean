/-
  The way with one queue: the reference's Good; the plain law of the wait.
-/
import Derived.Test.YtaghgjmcjmjfiaaLs
namespace Go.Proofs.Ytaghgjmcjmjfiaa.B
open Go.RowKit Go.Proofs.YtaghgjmcjmjfiaaW.PrintWords Go.Proofs.YtaghgjmcjmjfiaaW.PrintLast Go.Proofs.YtaghgjmcjmjfiaaW.PrintMore
set_option linter.unusedVariables false
set_option linter.unusedSimpArgs false
theorem goodLk_eq (r d l s : Int) (hs : I64 s) : (decide (1000 ≤ r) && decide (r ≤ 17179869184) && decide (0 ≤ d) && decide (d ≤ 10000000) && decide (0 ≤ l) && decide (l ≤ 1000) && decide (-281474976710656 ≤ s) && decide (s ≤ 281474976710656)) = goodLk r d l s := by
  have h : decide (hold (absI s) ≤ 281474976710656) = (decide (-281474976710656 ≤ s) && decide (s ≤ 281474976710656)) := by
    unfold I64 at hs
    have hc := absI_cases s
    have hh : hold (absI s) = absI s ∨ hold (absI s) = 9223372036854775807 := by
      unfold hold
      split
      · omega
      · split <;> simp
    by_cases h1 : -281474976710656 ≤ s
    · by_cases h2 : s ≤ 281474976710656
      · rw [decide_eq_true h1, decide_eq_true h2]
        have : hold (absI s) = absI s := hold_in (by omega) (by omega)
        rw [this]
        simp
        omega
      · rw [decide_eq_true h1, decide_eq_false h2]
        simp
        omega
    · rw [decide_eq_false h1]
      simp
      unfold hold
      split
      · omega
      · split <;> omega
  unfold goodLk
  rw [h]
  simp only [Bool.and_assoc]
set_option maxHeartbeats 1000000 in
theorem rgood_any (r d l s : Int) (hs : I64 s) (w : World) : Calls Try.prog 8 #[lkV r d l s] w fun e w' => e = .returned (.bool (goodLk r d l s)) ∧ Below w.heap.size w w' := by
  rw [← goodLk_eq r d l s hs]
  clear hs
  unfold lkV
  go_enter Try.func8, Try.ntmps8
  go_wp2_with fail
  all_goals go_ret
  all_goals (refine ⟨?_, (Below.refl _ _).alloc (Nat.le_refl _) _⟩)
  · show Ending.returned (.bool (decide (s ≤ 281474976710656))) = _
    simp [*]
  · simp only [decide_eq_false (show ¬ -281474976710656 ≤ s by omega), Bool.false_and, Bool.and_false]; rfl
  · simp only [decide_eq_false (show ¬ l ≤ 1000 by omega), Bool.false_and, Bool.and_false]; rfl
  · simp only [decide_eq_false (show ¬ 0 ≤ l by omega), Bool.false_and, Bool.and_false]; rfl
  · simp only [decide_eq_false (show ¬ d ≤ 10000000 by omega), Bool.false_and, Bool.and_false]; rfl
  · simp only [decide_eq_false (show ¬ 0 ≤ d by omega), Bool.false_and, Bool.and_false]; rfl
  · simp only [decide_eq_false (show ¬ r ≤ 17179869184 by omega), Bool.false_and, Bool.and_false]; rfl
  · simp only [decide_eq_false (show ¬ 1000 ≤ r by omega), Bool.false_and, Bool.and_false]; rfl
theorem mod_any (w : World) : Calls Try.prog 16 #[.int .i64 7, .int .i64 4] w fun e w' => e = .returned (.int .i64 3) ∧ w' = w := by
  go_enter Try.func16, Try.ntmps16
  go_wp2_with fail
  go_ret
  exact ⟨rfl, rfl⟩
/-- The bytes and the time of what is not carried by t. -/
def qB (t : Int) : List Pkt → Int
  | [] => 0
  | p :: r => (if t < p.2.2.2.1 then p.2.1 else 0) + qB t r
def qT (rt t : Int) : List Pkt → Int
  | [] => 0
  | p :: r => (if t < p.2.2.2.1 then tk rt p.2.1 else 0) + qT rt t r
theorem qB_snoc (t : Int) (p : Pkt) : ∀ q, qB t (q ++ [p]) = qB t q + (if t < p.2.2.2.1 then p.2.1 else 0)
  | [] => by simp [qB]
  | x :: r => by rw [List.cons_append, qB, qB_snoc t p r, qB]; omega
theorem qT_snoc (rt t : Int) (p : Pkt) : ∀ q, qT rt t (q ++ [p]) = qT rt t q + (if t < p.2.2.2.1 then tk rt p.2.1 else 0)
  | [] => by simp [qT]
  | x :: r => by rw [List.cons_append, qT, qT_snoc rt t p r, qT]; omega
def PkOk (p : Pkt) : Prop := 0 ≤ p.2.1 ∧ p.2.1 ≤ 1500
theorem qB_range (t : Int) : ∀ q : List Pkt, (∀ p ∈ q, PkOk p) → 0 ≤ qB t q ∧ qB t q ≤ (q.length : Int) * 1500
  | [], _ => by simp [qB]
  | x :: r, h => by
    have h1 := qB_range t r (fun p hp => h p (List.mem_cons_of_mem _ hp))
    have h2 := h x (List.mem_cons_self)
    unfold PkOk at h2
    rw [qB, List.length_cons]
    generalize qB t r = X at *
    generalize x.2.1 = s at *
    push_cast
    split <;> omega
theorem qT_nonneg (rt t : Int) (hr : 1000 ≤ rt) : ∀ q : List Pkt, (∀ p ∈ q, PkOk p) → 0 ≤ qT rt t q
  | [], _ => by simp [qT]
  | x :: r, h => by
    have h1 := qT_nonneg rt t hr r (fun p hp => h p (List.mem_cons_of_mem _ hp))
    have h2 := h x (List.mem_cons_self)
    have h3 := (tk_le rt x.2.1 hr h2.1 h2.2).1
    rw [qT]
    generalize qT rt t r = X at *
    generalize tk rt x.2.1 = s at *
    split <;> omega
theorem qT_rel (rt t : Int) (hr : 1000 ≤ rt) : ∀ q : List Pkt, (∀ p ∈ q, PkOk p) → rt * qT rt t q ≤ qB t q * 8000000 + (rt - 1) * (q.length : Int)
  | [], _ => by simp [qT, qB]
  | x :: r, h => by
    have h1 := qT_rel rt t hr r (fun p hp => h p (List.mem_cons_of_mem _ hp))
    have h2 := h x (List.mem_cons_self)
    unfold PkOk at h2
    have h3 := (tk_spec rt x.2.1 (by omega) h2.1 (by omega)).2.2
    have h4 : (rt - 1) * ((x :: r).length : Int) = (rt - 1) * (r.length : Int) + (rt - 1) := by
      rw [List.length_cons]
      push_cast
      rw [Int.mul_add, Int.mul_one]
    rw [h4, qT, qB, Int.mul_add, Int.add_mul]
    split
    · generalize rt * tk rt x.2.1 = A at *
      generalize rt * qT rt t r = B at *
      generalize qB t r * 8000000 = C at *
      generalize (rt - 1) * (r.length : Int) = D at *
      omega
    · rw [Int.mul_zero, Int.zero_mul]
      generalize rt * qT rt t r = B at *
      generalize qB t r * 8000000 = C at *
      generalize (rt - 1) * (r.length : Int) = D at *
      omega
theorem qT_le (rt t : Int) (hr : 1000 ≤ rt) (q : List Pkt) (h : ∀ p ∈ q, PkOk p) (hl : q.length ≤ 200) : qT rt t q ≤ tk rt (qB t q) + (q.length : Int) := by
  have h1 := qT_rel rt t hr q h
  have h2 := qB_range t q h
  have h3 := (tk_spec rt (qB t q) (by omega) h2.1 (by omega)).2.1
  generalize qB t q = Q at *
  have h4 : (rt - 1) * (q.length : Int) = rt * (q.length : Int) - (q.length : Int) := by rw [Int.sub_mul, Int.one_mul]
  rw [h4] at h1
  refine Int.le_of_mul_le_mul_left (a := rt) ?_ (by omega)
  rw [Int.mul_add]
  generalize rt * tk rt Q = A at *
  generalize rt * (q.length : Int) = B at *
  generalize rt * qT rt t q = C at *
  generalize Q * 8000000 = D at *
  omega
/-- What is known of the way behind i packets, the last one at a. -/
structure WtIs (r : Int) (i : Nat) (a : Int) (y : Wy) : Prop where
  rate : y.rate = r
  len : y.q.length = i
  a0 : 0 ≤ a
  a1 : a ≤ (i : Int) * 65535
  l0 : y.last ≤ a
  f0 : 0 ≤ y.free
  f1 : y.free ≤ (i : Int) * 12065535
  ok : ∀ p ∈ y.q, PkOk p
  at_ : ∀ p ∈ y.q, p.2.2.1 ≤ a
  inv : ∀ t, a ≤ t → y.free ≤ t ∨ y.free - t ≤ qT r t y.q
theorem wt_made (r d l s : Int) : WtIs r 0 0 (Wy.made r d l s) := ⟨rfl, rfl, Int.le_refl _, by simp, Int.le_refl _, Int.le_refl _, by simp [Wy.made], by simp [Wy.made], by simp [Wy.made], fun t ht => .inl ht⟩
theorem wt_step {r : Int} {i : Nat} {a : Int} {y : Wy} (seq size g : Int) (h : WtIs r i a y) (hi : i < 200) (hr : 1000 ≤ r) (hs0 : 0 ≤ size) (hs1 : size ≤ 1500) (hg0 : 0 ≤ g) (hg1 : g ≤ 65535) : WtIs r (i + 1) (a + g) (y.in1 seq size (a + g) (tk r size)) := by
  obtain ⟨h1, h2, h3, h4, h5, h6, h7, h8, h9, h10⟩ := h
  have ht := tk_le r size hr hs0 hs1
  obtain ⟨T, hT⟩ : ∃ T, T = tk r size := ⟨_, rfl⟩
  rw [← hT] at ht
  have hm : max y.free (a + g) = y.free ∨ max y.free (a + g) = a + g := by omega
  have hm1 : y.free ≤ max y.free (a + g) := by omega
  have hm2 : a + g ≤ max y.free (a + g) := by omega
  have hm3 : max y.free (a + g) ≤ (i : Int) * 12065535 + 65535 := by omega
  have hw : wrap64 (max y.free (a + g) + T) = max y.free (a + g) + T := w64in _ (by omega)
  refine ⟨h1, ?_, by omega, ?_, Int.le_refl _, ?_, ?_, ?_, ?_, ?_⟩
  · simp [Wy.in1, h2]
  · push_cast
    omega
  · show 0 ≤ wrap64 _
    rw [← hT, hw]
    omega
  · show wrap64 _ ≤ _
    rw [← hT, hw]
    push_cast
    omega
  · intro p hp
    simp only [Wy.in1, List.mem_append, List.mem_singleton] at hp
    rcases hp with hp | rfl
    · exact h8 p hp
    · exact ⟨hs0, hs1⟩
  · intro p hp
    simp only [Wy.in1, List.mem_append, List.mem_singleton] at hp
    rcases hp with hp | rfl
    · have := h9 p hp
      omega
    · exact Int.le_refl _
  · intro t ht2
    show wrap64 _ ≤ t ∨ wrap64 _ - t ≤ qT r t (y.q ++ [_])
    rw [qT_snoc, ← hT, hw]
    dsimp only
    have hq := qT_nonneg r t hr y.q h8
    have hv := h10 t (by omega)
    generalize qT r t y.q = X at *
    split
    · right
      omega
    · left
      omega
theorem qsum_is (t : Int) : ∀ (q p : List Pkt) (s : Int), (∀ x ∈ q, PkOk x ∧ x.2.2.1 ≤ t) → 0 ≤ s → s + (q.length : Int) * 1500 ≤ 1000000000 → q.foldl (qstep t) s = s + qB t q
  | [], _, s, _, _, _ => by simp [qB]
  | x :: r, p, s, h, h0, h1 => by
    have hx := h x (List.mem_cons_self)
    have hx1 := hx.1.1
    have hx2 := hx.1.2
    rw [List.length_cons] at h1
    push_cast at h1
    have hr := fun s => qsum_is t r p s (fun y hy => h y (List.mem_cons_of_mem _ hy))
    rw [List.foldl_cons, qB]
    by_cases hc : t < x.2.2.2.1
    · have e : qstep t s x = s + x.2.1 := by
        unfold qstep
        rw [if_pos ⟨hx.2, hc⟩, w64in _ (by omega)]
      rw [e, if_pos hc, hr _ (by omega) (by omega)]
      omega
    · have e : qstep t s x = s := by
        unfold qstep
        rw [if_neg (fun hh => hc hh.2)]
      rw [e, if_neg hc, hr _ (by omega) (by omega)]
      omega
theorem wt_wait {r : Int} {i : Nat} {a : Int} {y : Wy} (h : WtIs r i a y) (hi : i ≤ 200) (hr : 1000 ≤ r) : 0 ≤ max (hold (y.free - a)) 0 ∧ max (hold (y.free - a)) 0 ≤ tk r (qsum y.q a) + (i : Int) ∧ 0 ≤ tk r (qsum y.q a) ∧ tk r (qsum y.q a) ≤ 3000000000 ∧ 0 ≤ qsum y.q a ∧ qsum y.q a ≤ 300000 := by
  have hq : qsum y.q a = qB a y.q := by
    unfold qsum
    rw [qsum_is a y.q [] 0 (fun x hx => ⟨h.ok x hx, h.at_ x hx⟩) (by omega) (by rw [h.len]; omega)]
    omega
  rw [hq]
  have h1 := qT_le r a hr y.q h.ok (by rw [h.len]; exact hi)
  have h2 := qB_range a y.q h.ok
  have h3 := h.inv a (Int.le_refl _)
  have h4 := h.a0
  have h5 := h.a1
  have h6 := h.f0
  have h7 := h.f1
  rw [h.len] at h1 h2
  have h8 := tk_spec r (qB a y.q) (by omega) h2.1 (by omega)
  have h9 : tk r (qB a y.q) ≤ 3000000000 := by
    refine Int.not_lt.1 fun hc => ?_
    have h10 := Int.mul_le_mul_of_nonneg_left (show (3000000001 : Int) ≤ tk r (qB a y.q) from hc) (show (0 : Int) ≤ r by omega)
    have h11 := h8.2.2
    generalize qB a y.q = Q at *
    generalize r * tk r Q = Z at *
    omega
  have h10 := h8.1
  clear h8
  rw [hold_in (by omega) (by omega)]
  generalize tk r (qB a y.q) = Z at *
  generalize qB a y.q = Q at *
  generalize qT r a y.q = X at *
  omega
end Go.Proofs.Ytaghgjmcjmjfiaa.B
