/-
  Messages joined are split as they were; messages that stand one behind the other. Walks.
-/
import Derived.Test.YteegleldmnokkaaRu
namespace Go.Proofs.Yteegleldmnokkaa.B
open Go.RowKit Go.Proofs.YteegleldmnokkaaW.PrintWords Go.Proofs.YteegleldmnokkaaW.PrintLast Go.Proofs.YteegleldmnokkaaW.PrintMore
set_option linter.unusedVariables false
set_option linter.unusedSimpArgs false
theorem join_size (l : List P3) : (joinP l).1.size ≤ 65536 := by
  unfold joinP
  split
  · show (0 : Nat) ≤ _; omega
  split
  · show (0 : Nat) ≤ _; omega
  split
  · show (0 : Nat) ≤ _; omega
  · rw [tx_size, allBytes_length]; omega
set_option maxHeartbeats 8000000 in
theorem rtcpBack_any (A : Option Addr) (len cap : Nat) (s : ByteArray) (w : World) (h1 : len ≤ cap) (h2 : cap ≤ maxLen)
    (h3 : ∀ i, i < len → ∃ (ad : Addr) (c0 : Int) (c1 : Int) (c2 : ByteArray), A = some ad ∧ w.cell? (ad.add (i * 3 + 0)) = some (.int .i64 c0) ∧ I64 c0 ∧ w.cell? (ad.add (i * 3 + 1)) = some (.int .i64 c1) ∧ I64 c1 ∧ w.cell? (ad.add (i * 3 + 2)) = some (.string c2) ∧ c2.size ≤ maxLen) (hs : s.size ≤ 140737488351232) :
    Calls Try.prog 5 #[.slice A len cap, .string s] w fun e w' => e = .returned (.bool true) ∧ Below w.heap.size w w' := by
  obtain ⟨l, rfl, hP, hS⟩ := parts_in h3
  have HL := Aside0.mk (small_len (Nat.le_trans h1 h2))
  have HP := Aside0.mk hP
  have HS := Aside0.mk hS
  have HB0 := Aside0.mk (Below.refl w.heap.size w)
  clear h3 hP hS
  go_enter Try.func5, Try.ntmps5
  go_wp2_with fail
  refine (large_any A cap l w HL.out HP.out HS.out).mono ?_
  rintro e w1 ⟨b, rfl, hb, hw1⟩
  obtain rfl := hw1.symm
  cases b with
  | true =>
    clear hb
    go_wp2_with fail
    refine (wakes_any w).mono ?_
    rintro e wz ⟨rfl, hBz⟩
    have HBw := Aside0.mk (HB0.out.trans (hBz.mono HB0.out.size))
    clear hBz
    go_wp2_with fail
    go_ret
    exact ⟨rfl, HBw.out⟩
  | false =>
    obtain ⟨s1, s2, s3⟩ := hb rfl
    have HS1 := Aside0.mk s1
    clear s1 s2 s3 hb
    by_cases h7 : 70000 < s.size
    · have d1 : decide (70000 < (s.size : Int)) = true := decide_eq_true (by omega)
      go_wp2_with fail
      refine (wakes_any w).mono ?_
      rintro e wz ⟨rfl, hBz⟩
      have HBw := Aside0.mk (HB0.out.trans (hBz.mono HB0.out.size))
      clear hBz
      go_wp2_with fail
      go_ret
      exact ⟨rfl, HBw.out⟩
    · have d1 : decide (70000 < (s.size : Int)) = false := decide_eq_false (by omega)
      go_wp2_with fail
      refine (few_any A cap l w (by have := HS1.out; omega) h1 HP.out).mono ?_
      rintro e w2 ⟨v, rfl, hR, hB2⟩
      obtain ⟨A2, c2, rfl, hP2, hc2, hm2⟩ := of_row_ hR
      have HP2 := Aside0.mk hP2
      have HB2 := Aside0.mk hB2
      clear hR hP2 hB2
      go_wp2_with fail
      refine (join_any A2 c2 l w2 HL.out HP2.out HS.out).mono ?_
      rintro e w3 ⟨rfl, hB3⟩
      have hjs := join_size l
      obtain ⟨J1, hJ1⟩ : ∃ J, J = (joinP l).1 := ⟨_, rfl⟩
      obtain ⟨J2, hJ2⟩ : ∃ J, J = (joinP l).2 := ⟨_, rfl⟩
      rw [← hJ1] at hjs ⊢
      rw [← hJ2]
      have HJ1 := Aside0.mk hJ1
      have HJ2 := Aside0.mk hJ2
      have HB3 := Aside0.mk (HB2.out.trans (hB3.mono HB2.out.size))
      clear hB3 hJ1 hJ2 HP2 hc2 hm2
      by_cases hJ : J2 = 0
      · have HSJ := Aside0.mk (split_join l J1 (Prod.ext HJ1.out.symm (HJ2.out.symm.trans hJ))).1
        subst hJ
        go_wp2_with fail
        refine (split_any J1 w3 (by omega)).mono ?_
        rintro e w4 ⟨v_, rfl, hR_, hB_⟩
        rw [HSJ.out] at hR_ ⊢
        dsimp only at hR_ ⊢
        obtain ⟨A4, c4, rfl, hP_, hc4, hm4⟩ := of_row_ hR_
        have HP4 := Aside0.mk hP_
        have HB4 := Aside0.mk (HB3.out.trans (hB_.mono HB3.out.size))
        clear hR_ hB_ hP_
        go_wp2_with fail
        refine (parts_any A4 A c4 cap l l w4 HL.out HL.out HP4.out (HP.out.below HB4.out)).mono ?_
        rintro e w5 ⟨rfl, hD5⟩
        rw [decide_eq_true (rfl : l = l)]
        have HB5 := Aside0.mk (below_drawn HB4.out hD5)
        clear hD5
        go_wp2_with fail
        refine (split_any s w5 (by omega)).mono ?_
        rintro e w6 ⟨v_, rfl, hR_, hB_⟩
        have hl_K := split_len s
        obtain ⟨K, hK⟩ : ∃ l, l = (splitP s).1 := ⟨_, rfl⟩
        obtain ⟨F, hF⟩ : ∃ l, l = (splitP s).2 := ⟨_, rfl⟩
        rw [← hK] at hl_K hR_
        rw [← hF]
        have HK := Aside0.mk hK
        have HF := Aside0.mk hF
        obtain ⟨A6, c6, rfl, hP_, hc_K, hm_K⟩ := of_row_ hR_
        have HP6 := Aside0.mk hP_
        have HB6 := Aside0.mk (HB5.out.trans (hB_.mono HB5.out.size))
        clear hR_ hB_ hP_ hK hF
        by_cases hF : F = 0
        · obtain ⟨z1, z2, z3⟩ := splitP_inv (s := s) (l := K) (Prod.ext HK.out.symm (HF.out.symm.trans hF))
          obtain ⟨y1, y2, y3, y4⟩ := splitR_ok _ s K rfl z3
          have hKne : K ≠ [] := fun e => z2 (y4 e)
          have hjo := join_ok hKne y1 (by omega)
          have hsj := (split_join K _ hjo).1
          have hus : (tx (allBytes K)).size ≤ s.size := by rw [tx_size, allBytes_length]; exact y2
          have HS6 : Aside0 (∀ x ∈ K, x.2.2.size ≤ 9223372036854775807) := ⟨fun x hx => Nat.le_trans (ok_size (y1 x hx)) (by decide)⟩
          have HJO := Aside0.mk hjo
          have HSJ := Aside0.mk hsj
          obtain ⟨U, hU⟩ : ∃ U, U = tx (allBytes K) := ⟨_, rfl⟩
          rw [← hU] at HJO HSJ hus
          clear z1 z2 z3 y1 y2 y3 y4 hKne hjo hsj hU
          subst hF
          go_wp2_with fail
          refine (join_any A6 c6 K w6 (len_big hl_K) HP6.out HS6.out).mono ?_
          rintro e w7 ⟨rfl, hB7⟩
          rw [HJO.out]
          have HP7 := Aside0.mk (HP6.out.below hB7)
          have HB7 := Aside0.mk (HB6.out.trans (hB7.mono HB6.out.size))
          clear hB7
          dsimp only
          go_wp2_with fail
          refine (split_any U w7 (by omega)).mono ?_
          rintro e w8 ⟨v_, rfl, hR_, hB_⟩
          rw [HSJ.out] at hR_ ⊢
          dsimp only at hR_ ⊢
          obtain ⟨A8, c8, rfl, hP_, hc8, hm8⟩ := of_row_ hR_
          have HP8 := Aside0.mk hP_
          have HP78 := Aside0.mk (HP7.out.below hB_)
          have HB8 := Aside0.mk (HB7.out.trans (hB_.mono HB7.out.size))
          have q9 : decide ((U.size : Int) ≤ (s.size : Int)) = true := decide_eq_true (by omega)
          have q9' : decide (U.size ≤ s.size) = true := decide_eq_true hus
          clear hR_ hB_ hP_
          go_wp2_with fail
          refine (parts_any A8 A6 c8 c6 K K w8 (len_big hl_K) (len_big hl_K) HP8.out HP78.out).mono ?_
          rintro e w9 ⟨rfl, hD9⟩
          rw [decide_eq_true (rfl : K = K)]
          have HB9 := Aside0.mk (below_drawn HB8.out hD9)
          clear hD9
          go_wp2_with fail
          refine (wakes_any w9).mono ?_
          rintro e wz ⟨rfl, hBz⟩
          have HBw := Aside0.mk (HB9.out.trans (hBz.mono HB9.out.size))
          clear hBz
          go_wp2_with fail
          go_ret
          exact ⟨rfl, HBw.out⟩
        · have hK0 : K = [] := by rw [HK.out]; exact splitP_fst (by rw [← HF.out]; exact hF)
          subst hK0
          have q9 : (F != 0) = true := by simp [hF]
          simp only [List.length_nil] at hc_K ⊢
          clear hF
          go_wp2_with fail
          refine (wakes_any w6).mono ?_
          rintro e wz ⟨rfl, hBz⟩
          have HBw := Aside0.mk (HB6.out.trans (hBz.mono HB6.out.size))
          clear hBz
          go_wp2_with fail
          go_ret
          exact ⟨rfl, HBw.out⟩
      · have q0 : (J2 == 0) = false := by simp [hJ]
        clear hJ
        go_wp2_with fail
        refine (split_any s w3 (by omega)).mono ?_
        rintro e w6 ⟨v_, rfl, hR_, hB_⟩
        have hl_K := split_len s
        obtain ⟨K, hK⟩ : ∃ l, l = (splitP s).1 := ⟨_, rfl⟩
        obtain ⟨F, hF⟩ : ∃ l, l = (splitP s).2 := ⟨_, rfl⟩
        rw [← hK] at hl_K hR_
        rw [← hF]
        have HK := Aside0.mk hK
        have HF := Aside0.mk hF
        obtain ⟨A6, c6, rfl, hP_, hc_K, hm_K⟩ := of_row_ hR_
        have HP6 := Aside0.mk hP_
        have HB6 := Aside0.mk (HB3.out.trans (hB_.mono HB3.out.size))
        clear hR_ hB_ hP_ hK hF
        by_cases hF : F = 0
        · obtain ⟨z1, z2, z3⟩ := splitP_inv (s := s) (l := K) (Prod.ext HK.out.symm (HF.out.symm.trans hF))
          obtain ⟨y1, y2, y3, y4⟩ := splitR_ok _ s K rfl z3
          have hKne : K ≠ [] := fun e => z2 (y4 e)
          have hjo := join_ok hKne y1 (by omega)
          have hsj := (split_join K _ hjo).1
          have hus : (tx (allBytes K)).size ≤ s.size := by rw [tx_size, allBytes_length]; exact y2
          have HS6 : Aside0 (∀ x ∈ K, x.2.2.size ≤ 9223372036854775807) := ⟨fun x hx => Nat.le_trans (ok_size (y1 x hx)) (by decide)⟩
          have HJO := Aside0.mk hjo
          have HSJ := Aside0.mk hsj
          obtain ⟨U, hU⟩ : ∃ U, U = tx (allBytes K) := ⟨_, rfl⟩
          rw [← hU] at HJO HSJ hus
          clear z1 z2 z3 y1 y2 y3 y4 hKne hjo hsj hU
          subst hF
          go_wp2_with fail
          refine (join_any A6 c6 K w6 (len_big hl_K) HP6.out HS6.out).mono ?_
          rintro e w7 ⟨rfl, hB7⟩
          rw [HJO.out]
          have HP7 := Aside0.mk (HP6.out.below hB7)
          have HB7 := Aside0.mk (HB6.out.trans (hB7.mono HB6.out.size))
          clear hB7
          dsimp only
          go_wp2_with fail
          refine (split_any U w7 (by omega)).mono ?_
          rintro e w8 ⟨v_, rfl, hR_, hB_⟩
          rw [HSJ.out] at hR_ ⊢
          dsimp only at hR_ ⊢
          obtain ⟨A8, c8, rfl, hP_, hc8, hm8⟩ := of_row_ hR_
          have HP8 := Aside0.mk hP_
          have HP78 := Aside0.mk (HP7.out.below hB_)
          have HB8 := Aside0.mk (HB7.out.trans (hB_.mono HB7.out.size))
          have q9 : decide ((U.size : Int) ≤ (s.size : Int)) = true := decide_eq_true (by omega)
          have q9' : decide (U.size ≤ s.size) = true := decide_eq_true hus
          clear hR_ hB_ hP_
          go_wp2_with fail
          refine (parts_any A8 A6 c8 c6 K K w8 (len_big hl_K) (len_big hl_K) HP8.out HP78.out).mono ?_
          rintro e w9 ⟨rfl, hD9⟩
          rw [decide_eq_true (rfl : K = K)]
          have HB9 := Aside0.mk (below_drawn HB8.out hD9)
          clear hD9
          go_wp2_with fail
          refine (wakes_any w9).mono ?_
          rintro e wz ⟨rfl, hBz⟩
          have HBw := Aside0.mk (HB9.out.trans (hBz.mono HB9.out.size))
          clear hBz
          go_wp2_with fail
          go_ret
          exact ⟨rfl, HBw.out⟩
        · have hK0 : K = [] := by rw [HK.out]; exact splitP_fst (by rw [← HF.out]; exact hF)
          subst hK0
          have q9 : (F != 0) = true := by simp [hF]
          simp only [List.length_nil] at hc_K ⊢
          clear hF
          go_wp2_with fail
          refine (wakes_any w6).mono ?_
          rintro e wz ⟨rfl, hBz⟩
          have HBw := Aside0.mk (HB6.out.trans (hBz.mono HB6.out.size))
          clear hBz
          go_wp2_with fail
          go_ret
          exact ⟨rfl, HBw.out⟩
end Go.Proofs.Yteegleldmnokkaa.B
