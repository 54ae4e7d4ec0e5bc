/-
  Two lists of parts held against each other, copied, and measured. Walks over the statements' own helpers.
-/
import Derived.Test.YteegleldmnokkaaSx
namespace Go.Proofs.Yteegleldmnokkaa.B
open Go.RowKit Go.Proofs.YteegleldmnokkaaW.PrintWords Go.Proofs.YteegleldmnokkaaW.PrintLast Go.Proofs.YteegleldmnokkaaW.PrintMore
set_option linter.unusedVariables false
set_option linter.unusedSimpArgs false
theorem PartsAt.of_row {w : World} {base : Nat} {v : Value} {l : List P3} {A : Option Addr} {n c : Nat} (h : RowV w base 40 3 v l.length (partV l)) (hv : v = .slice A n c) : n = l.length ∧ PartsAt w A l ∧ n ≤ c ∧ c ≤ maxLen := by
  obtain ⟨_, ⟨rfl, h0⟩ | ⟨g, off, cap, rfl, _, _, h1, h2, hx, _⟩⟩ := h
  · injection hv with e1 e2 e3
    subst e1 e2 e3
    have : l = [] := List.eq_nil_of_length_eq_zero h0
    subst this
    exact ⟨rfl, fun i x hi => by simp at hi, by omega, by decide⟩
  · injection hv with e1 e2 e3
    subst e1 e2 e3
    refine ⟨rfl, fun i x hi => ?_, h1, h2⟩
    obtain ⟨q0, q1, q2⟩ := partV_get hi
    refine ⟨_, rfl, ?_, ?_, ?_⟩
    · rw [Addr.add_lit]; exact hx _ _ q0
    · have := hx _ _ q1
      rw [Addr.add_lit]
      simpa [Nat.add_assoc] using this
    · have := hx _ _ q2
      rw [Addr.add_lit]
      simpa [Nat.add_assoc] using this
theorem PartsAt.drawn {w w' : World} {A : Option Addr} {l : List P3} (h : PartsAt w A l) (hd : Drawn0 w w') : PartsAt w' A l := h.below hd.below
def KRel (w : World) (l1 l2 : List P3) (v : Value) (wr : World) : Prop := ∃ k : Nat, v = .int .i64 k ∧ k ≤ l1.length ∧ Aside0 (l1.take k = l2.take k) ∧ Aside0 (Drawn0 w wr)
set_option maxHeartbeats 4000000 in
theorem parts_walk (A1 A2 : Option Addr) (c1 c2 n : Nat) (l1 l2 : List P3) (w : World) (hn1 : n = l1.length) (hn2 : n = l2.length) (hn : n ≤ 9223372036854775807) (P1 : PartsAt w A1 l1) (P2 : PartsAt w A2 l2) :
    Calls Try.prog 13 #[.slice A1 n c1, .slice A2 n c2] w fun e w' => e = .returned (.bool (decide (l1 = l2))) ∧ Drawn0 w w' := by
  have H1 := Aside0.mk P1
  have H2 := Aside0.mk P2
  have N1 := Aside0.mk hn1
  have N2 := Aside0.mk hn2
  clear P1 P2 hn1 hn2
  obtain ⟨D, hD⟩ : ∃ D, D = decide (l1 = l2) := ⟨_, rfl⟩
  rw [← hD]
  have HD := Aside0.mk hD
  clear hD
  go_enter Try.func13, Try.ntmps13
  go_wp2_with fail
  go_loopw [5] (fun v wr => KRel w l1 l2 v wr) (fun v _ => n - (intOf v).toNat)
  case atStart => exact ⟨0, rfl, by omega, ⟨rfl⟩, ⟨Drawn0.refl _⟩⟩
  case round =>
    obtain ⟨k, rfl, hk, hE, hB⟩ := hrel
    rw [← N1.out] at hk
    by_cases hlt : k < n
    · obtain ⟨⟨x1, x2, x3⟩, hx⟩ : ∃ x, l1[k]? = some x := ⟨l1[k]'(by rw [← N1.out]; exact hlt), List.getElem?_eq_getElem (by rw [← N1.out]; exact hlt)⟩
      obtain ⟨⟨y1, y2, y3⟩, hy⟩ : ∃ x, l2[k]? = some x := ⟨l2[k]'(by rw [← N2.out]; exact hlt), List.getElem?_eq_getElem (by rw [← N2.out]; exact hlt)⟩
      obtain ⟨ad, hA, t0, t1, t2⟩ := (H1.out.drawn hB.out) k _ hx
      obtain ⟨bd, hA2, u0, u1, u2⟩ := (H2.out.drawn hB.out) k _ hy
      dsimp only at t0 t1 t2 u0 u1 u2
      subst hA hA2
      have HX := Aside0.mk hx
      have HY := Aside0.mk hy
      have i0 : (0 : Int) ≤ (k : Int) := by omega
      have i1 : (k : Int) < (n : Int) := by omega
      clear hx hy
      go_wp2_with fail
      by_cases q1 : x1 = y1
      · by_cases q2 : x2 = y2
        · by_cases q3 : x3 = y3
          · subst q1 q2 q3
            go_quiet (fail)
            go_wp2_with fail
            have e1 := Drawn0.step hB.out nq
            refine ⟨⟨k + 1, by simp, by rw [← N1.out]; omega, ⟨?_⟩, ⟨e1⟩⟩, by simp [intOf]; omega⟩
            rw [List.take_add_one, List.take_add_one, hE.out, HX.out, HY.out]
          · have b3 : (x3.toList == y3.toList) = false := by
              rw [beq_eq_false_iff_ne]
              intro e
              rw [ByteArray.toList_eq, ByteArray.toList_eq] at e
              exact q3 (ByteArray.ext (Array.ext' e))
            have HQ := Aside0.mk q3
            subst q1 q2
            clear q3
            go_quiet (fail)
            go_wp2_with fail
            go_ret
            refine ⟨?_, Drawn0.step hB.out nq⟩
            rw [show D = false from HD.out.trans (decide_eq_false ?_)]
            · rfl
            intro e
            have := HX.out
            rw [e, HY.out] at this
            injection this with this
            injection this with _ this
            injection this with _ this
            exact HQ.out this.symm
        · have b2 : (x2 != y2) = true := by simp [q2]
          have HQ := Aside0.mk q2
          subst q1
          clear q2
          go_quiet (fail)
          go_wp2_with fail
          go_ret
          refine ⟨?_, Drawn0.step hB.out nq⟩
          rw [show D = false from HD.out.trans (decide_eq_false ?_)]
          · rfl
          intro e
          have := HX.out
          rw [e, HY.out] at this
          injection this with this
          injection this with _ this
          injection this with this
          exact HQ.out this.symm
      · have b1 : (x1 != y1) = true := by simp [q1]
        have HQ := Aside0.mk q1
        clear q1
        go_quiet (fail)
        go_wp2_with fail
        go_ret
        refine ⟨?_, Drawn0.step hB.out nq⟩
        rw [show D = false from HD.out.trans (decide_eq_false ?_)]
        · rfl
        intro e
        have := HX.out
        rw [e, HY.out] at this
        injection this with this
        injection this with this
        exact HQ.out this.symm
    · have hkn : k = n := by omega
      have h1 : l1.take k = l1 := List.take_of_length_le (by rw [← N1.out]; omega)
      have h2 : l2.take k = l2 := List.take_of_length_le (by rw [← N2.out]; omega)
      rw [h1, h2] at hE
      have q2 : decide ((k : Int) < (n : Int)) = false := decide_eq_false (by omega)
      have HK := Aside0.mk hkn
      clear hkn h1 h2
      go_wp2_with fail
      go_ret
      refine ⟨?_, hB.out⟩
      rw [HD.out, decide_eq_true hE.out]
      rfl
set_option maxHeartbeats 1000000 in
theorem parts_any (A1 A2 : Option Addr) (c1 c2 : Nat) (l1 l2 : List P3) (w : World) (hn1 : l1.length ≤ 9223372036854775807) (hn2 : l2.length ≤ 9223372036854775807) (P1 : PartsAt w A1 l1) (P2 : PartsAt w A2 l2) :
    Calls Try.prog 13 #[.slice A1 l1.length c1, .slice A2 l2.length c2] w fun e w' => e = .returned (.bool (decide (l1 = l2))) ∧ Drawn0 w w' := by
  by_cases h : l1.length = l2.length
  · rw [← h]
    exact parts_walk A1 A2 c1 c2 l1.length l1 l2 w rfl h hn1 P1 P2
  · obtain ⟨D, hD⟩ : ∃ D, D = decide (l1 = l2) := ⟨_, rfl⟩
    rw [← hD]
    have HD := Aside0.mk (show D = false by rw [hD, decide_eq_false]; intro e; exact h (by rw [e]))
    obtain ⟨n, hn⟩ : ∃ n, n = l1.length := ⟨_, rfl⟩
    obtain ⟨m, hm⟩ : ∃ n, n = l2.length := ⟨_, rfl⟩
    rw [← hn, ← hm] at h ⊢
    have b1 : ((n : Int) != (m : Int)) = true := by simp; omega
    clear hD P1 P2 hn hm hn1 hn2
    go_enter Try.func13, Try.ntmps13
    go_wp2_with fail
    go_ret
    exact ⟨by rw [HD.out]; rfl, Drawn0.refl _⟩
def sumB (l : List P3) : Nat := (l.map fun x => x.2.2.size).sum
theorem sumB_snoc (l : List P3) (x : P3) : sumB (l ++ [x]) = sumB l + x.2.2.size := by simp [sumB]
theorem sumB_total (l : List P3) : total l = 4 * l.length + sumB l := by
  induction l with
  | nil => rfl
  | cons x l ih => rw [total_cons, ih]; simp only [sizeP, sumB, List.map_cons, List.sum_cons, List.length_cons]; omega
def SmallP (l : List P3) : Prop := l.length ≤ 300 ∧ (∀ x ∈ l, x.2.2.size ≤ 262144) ∧ sumB l ≤ 600000
def LRel (w : World) (l : List P3) (v3 v4 : Value) (wr : World) : Prop := ∃ k : Nat, v4 = .int .i64 k ∧ v3 = .int .i64 (sumB (l.take k) : Nat) ∧ k ≤ l.length ∧ sumB (l.take k) ≤ 600000 ∧ Aside0 (∀ x ∈ l.take k, x.2.2.size ≤ 262144) ∧ wr = w
set_option maxHeartbeats 4000000 in
theorem large_any (A : Option Addr) (c : Nat) (l : List P3) (w : World) (hn : l.length ≤ 9223372036854775807) (hP : PartsAt w A l) (hs : ∀ x ∈ l, x.2.2.size ≤ 9223372036854775807) :
    Calls Try.prog 8 #[.slice A l.length c] w fun e w' => ∃ b, e = .returned (.bool b) ∧ (b = false → SmallP l) ∧ w' = w := by
  obtain ⟨n, hl⟩ : ∃ n, n = l.length := ⟨_, rfl⟩
  have HP := Aside0.mk hP
  have HS := Aside0.mk hs
  have HN := Aside0.mk hl
  rw [← hl] at hn ⊢
  clear hP hs hl
  by_cases h3 : 300 < n
  · have b1 : decide (300 < (n : Int)) = true := decide_eq_true (by omega)
    go_enter Try.func8, Try.ntmps8
    go_wp2_with fail
    go_ret
    exact ⟨true, rfl, by simp, rfl⟩
  · have b1 : decide (300 < (n : Int)) = false := decide_eq_false (by omega)
    go_enter Try.func8, Try.ntmps8
    go_wp2_with fail
    go_loopw [3, 4] (fun v3 v4 wr => LRel w l v3 v4 wr) (fun _ v _ => n - (intOf v).toNat)
    case atStart => exact ⟨0, rfl, rfl, by omega, by simp [sumB], ⟨fun x hx => by simp at hx⟩, rfl⟩
    case round =>
      obtain ⟨k, rfl, rfl, hk, hsum, hE, rfl⟩ := hrel
      rw [← HN.out] at hk
      by_cases hlt : k < n
      · obtain ⟨⟨x1, x2, x3⟩, hx⟩ : ∃ x, l[k]? = some x := ⟨l[k]'(by rw [← HN.out]; exact hlt), List.getElem?_eq_getElem (by rw [← HN.out]; exact hlt)⟩
        obtain ⟨ad, hA, t0, t1, t2⟩ := HP.out k _ hx
        dsimp only at t0 t1 t2
        subst hA
        have hz := HS.out _ (List.mem_of_getElem? hx)
        dsimp only at hz
        have hsn := sumB_snoc (l.take k) (x1, x2, x3)
        have htk : l.take (k + 1) = l.take k ++ [(x1, x2, x3)] := by rw [List.take_add_one, hx]; rfl
        rw [← htk] at hsn
        dsimp only at hsn
        obtain ⟨S, hS⟩ : ∃ S, S = sumB (l.take k) := ⟨_, rfl⟩
        rw [← hS] at hsn hsum ⊢
        have HSN := Aside0.mk hsn
        have HTK := Aside0.mk htk
        have HSS := Aside0.mk hS
        have i0 : (0 : Int) ≤ (k : Int) := by omega
        have i1 : (k : Int) < (n : Int) := by omega
        clear hx hsn htk hS
        by_cases z1 : 262144 < x3.size
        · have q1 : decide (262144 < (x3.size : Int)) = true := decide_eq_true (by omega)
          go_wp2_with fail
          go_ret
          exact ⟨true, rfl, by simp, rfl⟩
        · have q1 : decide (262144 < (x3.size : Int)) = false := decide_eq_false (by omega)
          by_cases z2 : 600000 < S + x3.size
          · have q2 : decide (600000 < (S : Int) + (x3.size : Int)) = true := decide_eq_true (by omega)
            go_wp2_with fail
            go_ret
            exact ⟨true, rfl, by simp, rfl⟩
          · have q2 : decide (600000 < (S : Int) + (x3.size : Int)) = false := decide_eq_false (by omega)
            go_wp2_with fail
            refine ⟨⟨k + 1, by simp, by rw [HSN.out]; simp, by rw [← HN.out]; omega, by rw [HSN.out]; omega, ⟨fun x hx => ?_⟩, rfl⟩, by simp [intOf]; omega⟩
            rw [HTK.out] at hx
            rcases List.mem_append.1 hx with h | h
            · exact hE.out x h
            · rw [List.mem_singleton.1 h]; dsimp only; omega
      · have hta : l.take k = l := List.take_of_length_le (by rw [← HN.out]; omega)
        rw [hta] at hE hsum ⊢
        have q2 : decide ((k : Int) < (n : Int)) = false := decide_eq_false (by omega)
        have HF : Aside0 (SmallP l) := ⟨by rw [← HN.out]; omega, hE.out, hsum⟩
        go_wp2_with fail
        go_ret
        exact ⟨false, rfl, fun _ => HF.out, rfl⟩
theorem PartsAt.news {w : World} {ad : Addr} {l : List P3} (h : PartsAt w (some ad) l) : ∀ j u, (partV l)[j]? = some u → w.cell? (ad.add j) = some u := by
  intro j u hj
  have hlt : j < l.length * 3 := by
    rw [← partV_length]
    exact (List.getElem?_eq_some_iff.1 hj).1
  have hi : j / 3 < l.length := by omega
  obtain ⟨q0, q1, q2⟩ := partV_get (List.getElem?_eq_getElem hi)
  obtain ⟨ad', e, p0, p1, p2⟩ := h (j / 3) _ (List.getElem?_eq_getElem hi)
  injection e with e
  subst e
  have h3 : j = j / 3 * 3 ∨ j = j / 3 * 3 + 1 ∨ j = j / 3 * 3 + 2 := by omega
  rcases h3 with e | e | e
  · rw [← e] at q0 p0
    rw [hj] at q0
    rw [p0, q0]
  · rw [← add_field _ _ 1 (by omega), ← e] at p1
    rw [← e, hj] at q1
    rw [p1, q1]
  · rw [← add_field _ _ 2 (by omega), ← e] at p2
    rw [← e, hj] at q2
    rw [p2, q2]
theorem PartsAt.grown {w w' : World} {A : Option Addr} {l : List P3} (h : PartsAt w A l) (hb : w.grownBy w' none) : PartsAt w' A l := h.below ⟨hb.os, hb.tape, hb.output, hb.size, fun k hk => hb.block k hk (by simp)⟩
set_option maxHeartbeats 4000000 in
theorem few_any (A : Option Addr) (c : Nat) (l : List P3) (w : World) (hn : l.length ≤ 1000000) (hc : l.length ≤ c) (hP : PartsAt w A l) :
    Calls Try.prog 10 #[.slice A l.length c] w fun e w' => ∃ v, e = .returned v ∧ RowV w' w.heap.size 40 3 v l.length (partV l) ∧ Below w.heap.size w w' := by
  obtain ⟨n, hl⟩ : ∃ n, n = l.length := ⟨_, rfl⟩
  have HN := Aside0.mk hl
  rw [← hl] at hn hc ⊢
  have HR := Aside0.mk (RowV.empty w w.heap.size 40 3 (Nat.le_refl _))
  by_cases h0 : n = 0
  · subst h0
    have hz : l = [] := List.eq_nil_of_length_eq_zero hl.symm
    subst hz
    clear hl hP
    go_enter Try.func10, Try.ntmps10
    go_wp2_with (at_builtin; refine row_append_none (w := w.alloc (.cells #[] 40)) rfl (.tmp 3) (.tmp 4) 22 rfl 40 Try.t40 Try.underlying22 (by kernel_rfl) (some ⟨w.heap.size, 0, none⟩) A 0 0 c (by rfl) (by rfl) (Nat.le_refl _) ?_)
    go_ret
    exact ⟨_, rfl, HR.out, (Below.refl _ _).alloc (Nat.le_refl _) _⟩
  · obtain ⟨ad, hA⟩ : ∃ ad, A = some ad := by
      obtain ⟨ad, e, _⟩ := hP 0 (l[0]'(by omega)) (List.getElem?_eq_getElem _)
      exact ⟨ad, e⟩
    subst hA
    have HP2 := Aside0.mk (PartsAt.news (hP.below ((Below.refl _ _).alloc (Nat.le_refl _) (.cells #[] 40))))
    clear hl hP
    go_enter Try.func10, Try.ntmps10
    go_wp2_with (at_builtin; go_loud (refine row_append (w := w.alloc (.cells #[] 40)) rfl (.tmp 3) (.tmp 4) 22 rfl 40 Try.t40 (.agg #[.int .i64 0, .int .i64 0, .string { data := #[] }]) 3 32 Try.underlying22 (by kernel_rfl) rfl rfl rfl (by decide) (by decide) w.heap.size (.slice (some ⟨w.heap.size, 0, none⟩) 0 0) 0 [] (by rfl) HR.out ad n c (partV l) (by rfl) (by rw [partV_length, HN.out]) HP2.out (partV_one l) (by simp only [maxLen]; omega) (by omega) (by simp) ?_); intro v1 w6 hR6 hG6 hO6 hF6; have HR6 := Aside0.mk hR6; have HG6 := Aside0.mk hG6; clear hR6 hG6 hO6 hF6)
    go_ret
    refine ⟨_, rfl, ?_, ?_⟩
    · have h := HR6.out
      simpa using h
    · exact below_new ((Below.refl _ _).alloc (Nat.le_refl _) _) HG6.out (fun k hk => by have e : w.heap.size = k := Option.some.inj hk; omega)
end Go.Proofs.Yteegleldmnokkaa.B
