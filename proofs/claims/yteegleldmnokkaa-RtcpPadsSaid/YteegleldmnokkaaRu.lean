/-
  The laws of messages: what is asked whenever a law is asked at all; the first two laws. Walks.
-/
import Derived.Test.YteegleldmnokkaaRj
import Derived.Test.YteegleldmnokkaaRq
import Derived.Test.YteegleldmnokkaaSz
import Derived.Test.YteegleldmnokkaaRw
namespace Go.Proofs.Yteegleldmnokkaa.B
open Go.RowKit Go.Proofs.YteegleldmnokkaaW.PrintWords Go.Proofs.YteegleldmnokkaaW.PrintLast Go.Proofs.YteegleldmnokkaaW.PrintMore
set_option linter.unusedVariables false
set_option linter.unusedSimpArgs false
theorem parts_in {W : World} {A : Option Addr} {len : Nat} (h3 : ∀ i, i < len → ∃ (ad : Addr) (c0 : Int) (c1 : Int) (c2 : ByteArray), A = some ad ∧ W.cell? (ad.add (i * 3 + 0)) = some (.int .i64 c0) ∧ I64 c0 ∧ W.cell? (ad.add (i * 3 + 1)) = some (.int .i64 c1) ∧ I64 c1 ∧ W.cell? (ad.add (i * 3 + 2)) = some (.string c2) ∧ c2.size ≤ maxLen) :
    ∃ l : List P3, len = l.length ∧ PartsAt W A l ∧ ∀ x ∈ l, x.2.2.size ≤ 9223372036854775807 := by
  have key : ∀ n, n ≤ len → ∃ l : List P3, n = l.length ∧ PartsAt W A l ∧ ∀ x ∈ l, x.2.2.size ≤ 9223372036854775807 := by
    intro n
    induction n with
    | zero => exact fun _ => ⟨[], rfl, fun i x hi => by simp at hi, fun x hx => by simp at hx⟩
    | succ n ih =>
      intro hn
      obtain ⟨l, hl, hP, hS⟩ := ih (by omega)
      obtain ⟨ad, c0, c1, c2, hA, q0, _, q1, _, q2, hz⟩ := h3 n (by omega)
      refine ⟨l ++ [(c0, c1, c2)], by simp [hl], fun i x hi => ?_, fun x hx => ?_⟩
      · rcases Nat.lt_or_ge i l.length with h | h
        · rw [List.getElem?_append_left h] at hi
          exact hP i x hi
        · rw [List.getElem?_append_right h] at hi
          have hi0 : i - l.length = 0 := by
            rcases Nat.eq_zero_or_pos (i - l.length) with h | h
            · exact h
            · rw [List.getElem?_eq_none (by simp only [List.length_cons, List.length_nil]; omega)] at hi
              cases hi
          have hin : i = n := by omega
          rw [hi0] at hi
          have hx : (c0, c1, c2) = x := by simpa using hi
          subst hx hin
          refine ⟨ad, hA, by simpa using q0, ?_, ?_⟩
          · rw [← add_field _ _ 1 (by omega)]; exact q1
          · rw [← add_field _ _ 2 (by omega)]; exact q2
      · rcases List.mem_append.1 hx with h | h
        · exact hS x h
        · rw [List.mem_singleton.1 h]; exact Nat.le_trans hz (by decide)
  exact key len (Nat.le_refl _)
theorem len_big {n : Nat} (h : n ≤ 65536) : n ≤ 9223372036854775807 := Nat.le_trans h (by decide)
theorem small_len {n : Nat} (h : n ≤ maxLen) : n ≤ 9223372036854775807 := Nat.le_trans h (by decide)
def wakeP : P3 := (11, 205, ⟨#[]⟩)
theorem wake_join : joinP [wakeP] = (⟨#[139, 205, 0, 0]⟩, 0) := by decide
theorem wake_split : splitP ⟨#[139, 205, 0, 0]⟩ = ([wakeP], 0) := (split_join [wakeP] _ wake_join).1
set_option maxHeartbeats 4000000 in
theorem wakes_any (w : World) : Calls Try.prog 9 #[] w fun e w' => e = .returned (.bool true) ∧ Below w.heap.size w w' := by
  go_enter Try.func9, Try.ntmps9
  go_wp2_with fail
  have HN := Aside0.mk (new_news w [.int .i64 11, .int .i64 205, .string { data := #[] }] 40)
  have hP : PartsAt (w.alloc (.cells #[.int .i64 11, .int .i64 205, .string { data := #[] }] 40)) (some ⟨w.heap.size, 0, none⟩) [wakeP] := by
    intro i x hi
    have hi0 : i = 0 := by
      rcases Nat.eq_zero_or_pos i with h | h
      · exact h
      · rw [List.getElem?_eq_none (by simp only [List.length_cons, List.length_nil]; omega)] at hi
        cases hi
    subst hi0
    have hx : wakeP = x := by simpa using hi
    subst hx
    refine ⟨_, rfl, HN.out 0 _ rfl, ?_, ?_⟩
    · have := HN.out 1 _ rfl; exact this
    · have := HN.out 2 _ rfl; exact this
  refine (join_any (some ⟨w.heap.size, 0, none⟩) 1 [wakeP] _ (by decide) hP (by decide)).mono ?_
  rintro e w2 ⟨rfl, hB⟩
  rw [wake_join]
  have HB := Aside0.mk (((Below.refl _ _).alloc (Nat.le_refl _) _).trans (hB.mono (by simp)))
  clear hB hP
  go_wp2_with fail
  refine (split_any _ w2 (by decide)).mono ?_
  rintro e w3 ⟨v, rfl, hR, hB3⟩
  rw [wake_split] at hR ⊢
  obtain ⟨g, off, c, rfl, hb, hn, hc, hx⟩ := hR.some_ (by decide)
  have u0 := hx 0 _ rfl
  simp only [Nat.add_zero] at u0
  have HBF := Aside0.mk (HB.out.trans (hB3.mono HB.out.size))
  clear hB3 hR hx
  simp only [List.length_cons, List.length_nil, Nat.zero_add] at hn ⊢
  go_wp2_with fail
  go_ret
  exact ⟨rfl, HBF.out⟩
theorem below_drawn {w w1 w2 : World} (h : Below w.heap.size w w1) (hd : Drawn0 w1 w2) : Below w.heap.size w w2 := h.trans (hd.below.mono h.size)
theorem of_row_ {w : World} {base : Nat} {v : Value} {l : List P3} (h : RowV w base 40 3 v l.length (partV l)) : ∃ A c, v = .slice A l.length c ∧ PartsAt w A l ∧ l.length ≤ c ∧ c ≤ maxLen := by
  obtain ⟨A, c, rfl, h1, h2⟩ := h.form
  exact ⟨A, c, rfl, (PartsAt.of_row h rfl).2.1, h1, h2⟩
set_option maxHeartbeats 4000000 in
theorem rtcpJoins_any (A : Option Addr) (len cap : Nat) (w : World) (h1 : len ≤ cap) (h2 : cap ≤ maxLen)
    (h3 : ∀ i, i < len → ∃ (ad : Addr) (c0 : Int) (c1 : Int) (c2 : ByteArray), A = some ad ∧ w.cell? (ad.add (i * 3 + 0)) = some (.int .i64 c0) ∧ I64 c0 ∧ w.cell? (ad.add (i * 3 + 1)) = some (.int .i64 c1) ∧ I64 c1 ∧ w.cell? (ad.add (i * 3 + 2)) = some (.string c2) ∧ c2.size ≤ maxLen) :
    Calls Try.prog 3 #[.slice A len cap] w fun e w' => e = .returned (.bool true) ∧ Below w.heap.size w w' := by
  obtain ⟨l, rfl, hP, hS⟩ := parts_in h3
  have HL := small_len (Nat.le_trans h1 h2)
  have HP := Aside0.mk hP
  have HS := Aside0.mk hS
  clear h3 hP hS
  go_enter Try.func3, Try.ntmps3
  go_wp2_with fail
  refine (large_any A cap l w HL HP.out HS.out).mono ?_
  rintro e w1 ⟨b, rfl, hb, hw1⟩
  obtain rfl := hw1.symm
  cases b with
  | true =>
    clear hb
    go_wp2_with fail
    refine (wakes_any w).mono ?_
    rintro e w2 ⟨rfl, hB⟩
    have HB := Aside0.mk hB
    clear hB
    go_wp2_with fail
    go_ret
    exact ⟨rfl, HB.out⟩
  | false =>
    obtain ⟨s1, s2, s3⟩ := hb rfl
    have HS1 := Aside0.mk s1
    clear s1 s2 s3 hb
    go_wp2_with fail
    refine (few_any A cap l w (by have := HS1.out; omega) h1 HP.out).mono ?_
    rintro e w2 ⟨v, rfl, hR, hB2⟩
    obtain ⟨A2, c2, rfl, hP2, hc2, hm2⟩ := of_row_ hR
    have HP2 := Aside0.mk hP2
    have HB2 := Aside0.mk hB2
    clear hR hP2 hB2
    go_wp2_with fail
    refine (join_any A2 c2 l w2 HL HP2.out HS.out).mono ?_
    rintro e w3 ⟨rfl, hB3⟩
    obtain ⟨J1, hJ1⟩ : ∃ J, J = (joinP l).1 := ⟨_, rfl⟩
    obtain ⟨J2, hJ2⟩ : ∃ J, J = (joinP l).2 := ⟨_, rfl⟩
    rw [← hJ1, ← hJ2]
    have HJ1 := Aside0.mk hJ1
    have HJ2 := Aside0.mk hJ2
    have HP3 := Aside0.mk (HP2.out.below hB3)
    have HB3 := Aside0.mk (HB2.out.trans (hB3.mono HB2.out.size))
    clear hB3 hJ1 hJ2
    go_wp2_with fail
    refine (rjoin_any A cap l w3 HL (HP.out.below HB3.out) HS.out).mono ?_
    rintro e w4 ⟨rfl, hB4⟩
    rw [← HJ1.out, ← HJ2.out]
    have HP4 := Aside0.mk (HP3.out.below hB4)
    have HB4 := Aside0.mk (HB3.out.trans (hB4.mono HB3.out.size))
    clear hB4
    go_wp2_with fail
    refine (parts_any A2 A c2 cap l l w4 HL HL HP4.out (HP.out.below HB4.out)).mono ?_
    rintro e w5 ⟨rfl, hD5⟩
    rw [decide_eq_true (rfl : l = l)]
    have HB5 := Aside0.mk (below_drawn HB4.out hD5)
    clear hD5
    go_wp2_with fail
    refine (wakes_any w5).mono ?_
    rintro e w6 ⟨rfl, hB6⟩
    have HB6 := Aside0.mk (HB5.out.trans (hB6.mono HB5.out.size))
    clear hB6
    go_wp2_with fail
    go_ret
    exact ⟨rfl, HB6.out⟩
theorem split_len (s : ByteArray) : (splitP s).1.length ≤ 65536 := by
  by_cases h : (splitP s).2 = 0
  · obtain ⟨h1, h2, h3⟩ := splitP_inv (l := (splitP s).1) (by rw [← h])
    obtain ⟨_, h4, _⟩ := splitR_ok _ s _ rfl h3
    have := sumB_total (splitP s).1
    omega
  · rw [splitP_fst h]
    simp
/-- rsplit_any: long and empty texts too. -/
theorem rsplit_any (s : ByteArray) (w : World) (h : s.size ≤ 1000000) : Calls Try.prog 15 #[.string s] w (SplitPost s w) := by
  by_cases h1 : 65536 < s.size
  · have d1 : decide (65536 < (s.size : Int)) = true := decide_eq_true (by omega)
    have HE := Aside0.mk (splitP_long h1)
    go_enter Try.func15, Try.ntmps15
    go_wp2_with fail
    go_ret2
    exact ⟨_, by rw [HE.out]; rfl, by rw [HE.out]; exact RowV.nil _ _ _ _, Below.refl _ _⟩
  · by_cases h2 : s.size = 0
    · have HE := Aside0.mk (splitP_none h2)
      have d1 : decide (65536 < (s.size : Int)) = false := decide_eq_false (by omega)
      have d2 : s.toList.isEmpty = true := by rw [str_empty_]; exact decide_eq_true h2
      go_enter Try.func15, Try.ntmps15
      go_wp2_with fail
      go_ret2
      exact ⟨_, by rw [HE.out]; rfl, by rw [HE.out]; exact RowV.nil _ _ _ _, Below.refl _ _⟩
    · exact rsplit_some s w h2 (by omega)
set_option maxHeartbeats 4000000 in
theorem rtcpSplits_any (s : ByteArray) (w : World) (hs : s.size ≤ 140737488351232) :
    Calls Try.prog 4 #[.string s] w fun e w' => e = .returned (.bool true) ∧ Below w.heap.size w w' := by
  by_cases h7 : 70000 < s.size
  · have d1 : decide (70000 < (s.size : Int)) = true := decide_eq_true (by omega)
    go_enter Try.func4, Try.ntmps4
    go_wp2_with fail
    refine (wakes_any w).mono ?_
    rintro e w2 ⟨rfl, hB⟩
    have HB := Aside0.mk hB
    clear hB
    go_wp2_with fail
    go_ret
    exact ⟨rfl, HB.out⟩
  · have d1 : decide (70000 < (s.size : Int)) = false := decide_eq_false (by omega)
    have hl := split_len s
    go_enter Try.func4, Try.ntmps4
    go_wp2_with fail
    refine (split_any s w (by omega)).mono ?_
    rintro e w2 ⟨v, rfl, hR, hB2⟩
    obtain ⟨l, hll⟩ : ∃ l, l = (splitP s).1 := ⟨_, rfl⟩
    obtain ⟨E, hE⟩ : ∃ l, l = (splitP s).2 := ⟨_, rfl⟩
    rw [← hll] at hl hR
    rw [← hE]
    obtain ⟨A2, c2, rfl, hP2, hc2, hm2⟩ := of_row_ hR
    have HP2 := Aside0.mk hP2
    have HB2 := Aside0.mk hB2
    have HLL := Aside0.mk hll
    have HE := Aside0.mk hE
    clear hR hP2 hB2 hll hE
    go_wp2_with fail
    refine (rsplit_any s w2 (by omega)).mono ?_
    rintro e w3 ⟨v, rfl, hR, hB3⟩
    rw [← HLL.out] at hR
    rw [← HE.out]
    obtain ⟨A3, c3, rfl, hP3, hc3, hm3⟩ := of_row_ hR
    have HP3 := Aside0.mk hP3
    have HP23 := Aside0.mk (HP2.out.below hB3)
    have HB3 := Aside0.mk (HB2.out.trans (hB3.mono HB2.out.size))
    clear hR hP3 hB3
    go_wp2_with fail
    refine (parts_any A2 A3 c2 c3 l l w3 (len_big hl) (len_big hl) HP23.out HP3.out).mono ?_
    rintro e w5 ⟨rfl, hD5⟩
    rw [decide_eq_true (rfl : l = l)]
    have HB5 := Aside0.mk (below_drawn HB3.out hD5)
    clear hD5
    go_wp2_with fail
    refine (wakes_any w5).mono ?_
    rintro e w6 ⟨rfl, hB6⟩
    have HB6 := Aside0.mk (HB5.out.trans (hB6.mono HB5.out.size))
    clear hB6
    go_wp2_with fail
    go_ret
    exact ⟨rfl, HB6.out⟩
end Go.Proofs.Yteegleldmnokkaa.B
