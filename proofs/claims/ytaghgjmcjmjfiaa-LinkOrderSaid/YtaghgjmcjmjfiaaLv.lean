/-
  The way with one queue: the law of the wait. Walk over the program.
-/
import Derived.Test.YtaghgjmcjmjfiaaLu
namespace Go.Proofs.Ytaghgjmcjmjfiaa.B
open Go.RowKit Go.Proofs.YtaghgjmcjmjfiaaW.PrintWords Go.Proofs.YtaghgjmcjmjfiaaW.PrintLast Go.Proofs.YtaghgjmcjmjfiaaW.PrintMore
set_option linter.unusedVariables false
set_option linter.unusedSimpArgs false
def WtRel (wa : World) (g n1 n2 : Nat) (rate : Int) (v9 v10 : Value) (wr : World) : Prop :=
  ∃ (i : Nat) (a : Int) (y : Wy), v9 = .int .i64 a ∧ v10 = .int .i64 (i : Int) ∧ i ≤ n1 ∧ i ≤ n2 ∧ i ≤ 200 ∧ Aside0 (WyRun wa wr g y) ∧ Aside0 (WtIs rate i a y)
theorem rd_mem (l : List Int) (i : Nat) (hi : i < l.length) : rd l (i : Int) ∈ l := by
  unfold rd
  simp [List.getD_eq_getElem?_getD, hi]
theorem wt_in {w0 w : World} {g : Nat} {y : Wy} {r a : Int} {i : Nat} (size d : Int) (h : WyRun w0 w g y) (hI : WtIs r i a y) (hi : i < 200) (hr : 1000 ≤ r) (hrr : I64 r) (hs0 : 0 ≤ size) (hs1 : size ≤ 1500) (hd0 : 0 ≤ d) (hd1 : d ≤ 65535) :
    Calls Try.prog 11 #[.pointer (some ⟨g, 0, none⟩), .int .i64 (i : Int), .int .i64 size, .int .i64 (a + d)] w fun e w' => e = .returned (.bool true) ∧ ∃ y', WyRun w0 w' g y' ∧ WtIs r (i + 1) (a + d) y' := by
  have h1 := hI.l0
  have h2 := hI.a0
  have h3 := hI.a1
  have h4 := hI.len
  have h5 : I64 y.rate := by rw [hI.rate]; exact hrr
  refine (in_run (i : Int) size (a + d) h (by omega) (by omega) hs0 hs1 (by omega) (by omega) (by omega) h5).mono ?_
  rintro e w' ⟨he, hW⟩
  refine ⟨he, _, hW, ?_⟩
  rw [hI.rate]
  exact wt_step (i : Int) size d hI hi hr hs0 hs1 hd0 hd1
theorem wt_calls {w0 : World} {g : Nat} {y : Wy} {r a : Int} {i : Nat} (hI : WtIs r i a y) (hi : i ≤ 200) (hr : 1000 ≤ r) (hrr : I64 r) :
    (∀ w, WyRun w0 w g y → Calls Try.prog 13 #[.pointer (some ⟨g, 0, none⟩), .int .i64 a] w fun e w' => e = .returned (.int .i64 (max (hold (y.free - a)) 0)) ∧ Below w.heap.size w w') ∧
    (∀ w, WyRun w0 w g y → Calls Try.prog 15 #[.pointer (some ⟨g, 0, none⟩), .int .i64 a] w fun e w' => e = .returned (.int .i64 (qsum y.q a)) ∧ Below w.heap.size w w') ∧
    (∀ w, Calls Try.prog 14 #[.int .i64 r, .int .i64 (qsum y.q a)] w fun e w' => e = .returned (.int .i64 (tk r (qsum y.q a))) ∧ Below w.heap.size w w') := by
  have h2 := hI.a0
  have h3 := hI.a1
  have h4 := hI.len
  have h5 := hI.f0
  have h6 := hI.f1
  have hw := wt_wait hI hi hr
  exact ⟨fun w hW => wait_run a hW.rr (by unfold I64; omega) (by unfold I64; omega), fun w hW => queue_run a hW.rr (by omega), fun w => ticks_any r _ hrr (by unfold I64; omega) w⟩
set_option maxHeartbeats 4000000 in
theorem waits_good (rate delay lose skew : Int) (A1 : Option Addr) (c1 : Nat) (sz : List Int) (A2 : Option Addr) (c2 : Nat) (gp : List Int) (w : World) (h0 : I64 rate) (h3 : I64 skew) (hG : goodLk rate delay lose skew = true)
    (hC1 : (Kd.int .u16).C w A1 sz.length sz) (hw1 : ∀ x ∈ sz, U16 x) (hC2 : (Kd.int .u16).C w A2 gp.length gp) (hw2 : ∀ x ∈ gp, U16 x) (hm1 : sz.length ≤ maxLen) (hm2 : gp.length ≤ maxLen) :
    Calls Try.prog 4 #[.agg #[.int .i64 rate, .int .i64 delay, .int .i64 lose, .int .i64 skew], .slice A1 sz.length c1, .slice A2 gp.length c2] w fun e w' => e = .returned (.bool true) ∧ Below w.heap.size w w' := by
  have hrb : 1000 ≤ rate := by
    unfold goodLk at hG
    simp only [Bool.and_eq_true, decide_eq_true_eq] at hG
    exact hG.1.1.1.1.1.1
  have CG := Aside0.mk (fun w0 w' hB => new_run (w0 := w0) (w := w') rate delay lose skew h3 hB hG)
  obtain ⟨n1, hn1⟩ : ∃ n, n = sz.length := ⟨_, rfl⟩
  obtain ⟨n2, hn2⟩ : ∃ n, n = gp.length := ⟨_, rfl⟩
  rw [← hn1] at hC1 hm1 ⊢
  rw [← hn2] at hC2 hm2 ⊢
  have HC1 := Aside0.mk hC1
  have HC2 := Aside0.mk hC2
  have HW1 := Aside0.mk hw1
  have HW2 := Aside0.mk hw2
  have HN1 := Aside0.mk hn1
  have HN2 := Aside0.mk hn2
  have H3 := Aside0.mk h3
  have H0 := Aside0.mk h0
  unfold maxLen at hm1 hm2
  clear hC1 hC2 hw1 hw2 hn1 hn2 hG h3 h0
  go_enter Try.func4, Try.ntmps4
  go_wp2_with fail
  have hB0 := (Below.refl w.heap.size w).alloc (Nat.le_refl _) (.cells #[.int .i64 rate, .int .i64 delay, .int .i64 lose, .int .i64 skew] 23)
  have E0 := blk_new w (.cells #[.int .i64 rate, .int .i64 delay, .int .i64 lose, .int .i64 skew] 23)
  have x0 := blk_cell E0 0
  simp only [List.getElem?_toArray, List.getElem?_cons_zero, List.getElem?_cons_succ] at x0
  obtain ⟨lb, hlb⟩ : ∃ b, b = w.heap.size := ⟨_, rfl⟩
  have X0 : Aside0 ((w.alloc (.cells #[.int .i64 rate, .int .i64 delay, .int .i64 lose, .int .i64 skew] 23)).cell? ⟨lb, 0, none⟩ = some (.int .i64 rate) ∧ lb < (w.alloc (.cells #[.int .i64 rate, .int .i64 delay, .int .i64 lose, .int .i64 skew] 23)).heap.size) := ⟨by rw [hlb]; exact x0, by rw [hlb]; exact blk_lt E0⟩
  have HB0 := Aside0.mk hB0
  clear E0 x0 hB0
  generalize w.alloc (.cells #[.int .i64 rate, .int .i64 delay, .int .i64 lose, .int .i64 skew] 23) = wa at *
  refine (CG.out wa _ (Below.refl _ _)).mono ?_
  rintro e w1 ⟨g, rfl, hW⟩
  have H1 := Aside0.mk hW
  clear hW
  rw [← hlb]
  clear hlb
  go_wp2_with fail
  go_loopw [9, 10] (fun v9 v10 wr => WtRel wa g n1 n2 rate v9 v10 wr) (fun _ v _ => 200 - (intOf v).toNat)
  case atStart => exact ⟨0, 0, _, rfl, rfl, by omega, by omega, by omega, H1, ⟨wt_made _ _ _ _⟩⟩
  case round =>
    obtain ⟨i, a, y, rfl, rfl, hi1, hi2, hi3, hW, hI⟩ := hrel
    by_cases hlt1 : i < n1
    · have k1 : decide ((i : Int) < (n1 : Int)) = true := by simp; omega
      by_cases hlt2 : i < n2
      · have k2 : decide ((i : Int) < (n2 : Int)) = true := by simp; omega
        by_cases hlt3 : i < 200
        · have k3 : decide ((i : Int) < 200) = true := by simp; omega
          have hBw : Below w.heap.size w wr := HB0.out.trans (hW.out.b.mono HB0.out.size)
          obtain ⟨ad1, rfl, t1⟩ := Kd.at_int (Kd.C_below HC1.out hBw) (i : Int) (by omega) (by omega)
          obtain ⟨ad2, rfl, t2⟩ := Kd.at_int (Kd.C_below HC2.out hBw) (i : Int) (by omega) (by omega)
          have u1 := HW1.out _ (rd_mem sz i (by rw [← HN1.out]; exact hlt1))
          have u2 := HW2.out _ (rd_mem gp i (by rw [← HN2.out]; exact hlt2))
          obtain ⟨u1a, u1b⟩ := u1
          obtain ⟨u2a, u2b⟩ := u2
          have ha0 := hI.out.a0
          have ha1 := hI.out.a1
          generalize rd sz (i : Int) = X at *
          generalize rd gp (i : Int) = G at *
          rw [Int.toNat_natCast] at t1 t2
          clear hBw
          go_wp2_with fail
          refine (wt_in (X % 1501) G hW.out hI.out hlt3 hrb H0.out (by omega) (by omega) u2a u2b).mono ?_
          rintro e w3 ⟨rfl, y', hW3, hI3⟩
          have CC := wt_calls (w0 := wa) (g := g) hI3 (by omega) hrb H0.out
          have hv := wt_wait hI3 (by omega) hrb
          have HI3 := Aside0.mk hI3
          have HW3 := Aside0.mk hW3
          obtain ⟨V, hV⟩ : ∃ V, V = max (hold (y'.free - (a + G))) 0 := ⟨_, rfl⟩
          obtain ⟨Q, hQ⟩ : ∃ Q, Q = qsum y'.q (a + G) := ⟨_, rfl⟩
          obtain ⟨T, hT⟩ : ∃ T, T = tk rate Q := ⟨_, rfl⟩
          rw [← hV, ← hQ, ← hT] at CC hv
          obtain ⟨C1, C2, C3⟩ := CC
          have CW := Aside0.mk C1
          have CQ := Aside0.mk C2
          have CT := Aside0.mk C3
          clear C1 C2 C3 hV hQ hT hI3 hW3 t1 t2 hW hI
          obtain ⟨hv1, hv2, hv3, hv4, hv5, hv6⟩ := hv
          rw [Int.natCast_add, Int.natCast_one] at hv2
          have k4 : decide (wrap64 (wrap64 (T + (i : Int)) + 1) < V) = false := by
            rw [w64in (T + (i : Int)) (by omega), w64in (T + (i : Int) + 1) (by omega)]
            simp
            omega
          have k5 : decide (V < 0) = false := by simp; omega
          obtain ⟨B, hB⟩ : ∃ B, B = a + G := ⟨_, rfl⟩
          have hB0 : 0 ≤ B := by omega
          have hB1 : B ≤ (i : Int) * 65535 + 65535 := by omega
          rw [← hB] at CW CQ HI3 ⊢
          have HB := Aside0.mk hB
          clear hB
          have z0 : w3.drew.cell? ⟨lb, 0, none⟩ = some (.int .i64 rate) := (World.cell?_of_block (HW3.out.b.drew.block _ X0.out.2)).trans X0.out.1
          have HZ : Aside0 (WyRun wa w3.drew g y' ∧ lb < w3.drew.heap.size) := ⟨HW3.out.below ((Below.refl _ _).drew), Nat.lt_of_lt_of_le X0.out.2 HW3.out.b.size⟩
          go_wp2_with fail
          refine start_ (n := 19) (S := fun w' => w'.cell? ⟨lb, 0, none⟩ = some (.int .i64 rate) ∧ Aside0 (WyRun wa w' g y' ∧ lb < w'.heap.size)) (ds := []) #[false, false, false, false, false, false, false, false, false, false, false, false, false, false, false, false, false, false, false] (by kernel_rfl) rfl rfl ⟨z0, HZ⟩ (fun hHeld => ?_)
          refine pure_ (i := 0) (N := some 57) (v := ?_) (a' := ?_) #[true, false, false, false, false, false, false, false, false, false, false, false, false, false, false, false, false, false, false] rfl rfl (by kernel_rfl) (fun _ _ _ h => h) (Or.inl ⟨by rfl, ?_⟩) ?_ ?_
          rotate_left
          · intro w'
            go_simp
            with_reducible rfl
          rotate_left
          · simp only [Act.put, List.setIfInBounds_toArray, List.set_cons_zero, List.set_cons_succ, i64_w, i32_w]
            rfl
          refine pure_ (i := 1) (N := some 58) (v := ?_) (a' := ?_) #[true, true, false, false, false, false, false, false, false, false, false, false, false, false, false, false, false, false, false] rfl rfl (by kernel_rfl) (fun _ _ _ h => h) (Or.inl ⟨by rfl, ?_⟩) ?_ ?_
          rotate_left
          · intro w'
            go_simp
            with_reducible rfl
          rotate_left
          · simp only [Act.put, List.setIfInBounds_toArray, List.set_cons_zero, List.set_cons_succ, i64_w, i32_w]
            rfl
          refine pure_ (i := 3) (N := some 60) (v := ?_) (a' := ?_) #[true, true, false, true, false, false, false, false, false, false, false, false, false, false, false, false, false, false, false] rfl rfl (by kernel_rfl) (fun _ _ _ h => h) (Or.inl ⟨by rfl, ?_⟩) ?_ ?_
          rotate_left
          · intro w'
            go_simp
            with_reducible rfl
          rotate_left
          · simp only [Act.put, List.setIfInBounds_toArray, List.set_cons_zero, List.set_cons_succ, i64_w, i32_w]
            rfl
          refine pure_ (i := 5) (N := some 62) (v := ?_) (a' := ?_) #[true, true, false, true, false, true, false, false, false, false, false, false, false, false, false, false, false, false, false] rfl rfl (by kernel_rfl) (fun _ _ _ h => h) (Or.inl ⟨by rfl, ?_⟩) ?_ ?_
          rotate_left
          · intro w'
            go_simp
            with_reducible rfl
          rotate_left
          · simp only [Act.put, List.setIfInBounds_toArray, List.set_cons_zero, List.set_cons_succ, i64_w, i32_w]
            rfl
          refine pure_ (i := 6) (N := some 63) (v := ?_) (a' := ?_) #[true, true, false, true, false, true, true, false, false, false, false, false, false, false, false, false, false, false, false] rfl rfl (by kernel_rfl) (fun _ _ _ h => h) (Or.inl ⟨by rfl, ?_⟩) ?_ ?_
          rotate_left
          · intro w'
            go_simp
            with_reducible rfl
          rotate_left
          · simp only [Act.put, List.setIfInBounds_toArray, List.set_cons_zero, List.set_cons_succ, i64_w, i32_w]
            rfl
          refine pure_ (i := 9) (N := some 66) (v := ?_) (a' := ?_) #[true, true, false, true, false, true, true, false, false, true, false, false, false, false, false, false, false, false, false] rfl rfl (by kernel_rfl) (fun _ _ _ h => h) (Or.inl ⟨by rfl, ?_⟩) ?_ ?_
          rotate_left
          · intro w'
            go_simp
            with_reducible rfl
          rotate_left
          · simp only [Act.put, List.setIfInBounds_toArray, List.set_cons_zero, List.set_cons_succ, i64_w, i32_w]
            rfl
          refine take_ (i := 4) (N := some 61) (v := ?_) (a' := ?_) #[true, true, false, true, true, true, true, false, false, true, false, false, false, false, false, false, false, false, false] rfl rfl (by kernel_rfl) (fun _ _ _ h => h) (Or.inl ⟨by rfl, ?_⟩) hHeld ?_ ?_
          rotate_left
          · rintro w' ⟨s0, s1⟩
            go_simp
            with_reducible rfl
          rotate_left
          · simp only [Act.put, List.setIfInBounds_toArray, List.set_cons_zero, List.set_cons_succ, i64_w, i32_w]
            rfl
          refine one_ (i := 2) (N := some 59) #[true, true, true, true, true, true, true, false, false, true, false, false, false, false, false, false, false, false, false] rfl rfl (by kernel_rfl) (by decide) (fun K hK => ?_)
          refine goes_ Try.func13 (by kernel_rfl) rfl #[.pointer (some ⟨g, 0, none⟩), .int .i64 B] (by rfl) rfl rfl (by simp only [List.map_toArray, List.map_cons, List.map_nil]; rfl) ?_
          with_reducible refine (CW.out _ hHeld.2.out.1).mono ?_
          rintro e w3 ⟨rfl, hb⟩
          refine ⟨_, rfl, ?_⟩
          refine hK.out _ _ ⟨((World.cell?_of_block (hb.block _ hHeld.2.out.2)).trans hHeld.1), ⟨hHeld.2.out.1.below hb, Nat.lt_of_lt_of_le hHeld.2.out.2 hb.size⟩⟩ (fun hHeld => ?_)
          clear hK K
          refine norm_ (a' := ?_) ?_ ?_
          rotate_left
          · show Act.put _ (some 59) _ = _
            simp only [Act.put, List.setIfInBounds_toArray, List.set_cons_zero, List.set_cons_succ, i64_w, i32_w]
            rfl
          refine one_ (i := 7) (N := some 64) #[true, true, true, true, true, true, true, true, false, true, false, false, false, false, false, false, false, false, false] rfl rfl (by kernel_rfl) (by decide) (fun K hK => ?_)
          refine goes_ Try.func15 (by kernel_rfl) rfl #[.pointer (some ⟨g, 0, none⟩), .int .i64 B] (by rfl) rfl rfl (by simp only [List.map_toArray, List.map_cons, List.map_nil]; rfl) ?_
          with_reducible refine (CQ.out _ hHeld.2.out.1).mono ?_
          rintro e w3 ⟨rfl, hb⟩
          refine ⟨_, rfl, ?_⟩
          refine hK.out _ _ ⟨((World.cell?_of_block (hb.block _ hHeld.2.out.2)).trans hHeld.1), ⟨hHeld.2.out.1.below hb, Nat.lt_of_lt_of_le hHeld.2.out.2 hb.size⟩⟩ (fun hHeld => ?_)
          clear hK K
          refine norm_ (a' := ?_) ?_ ?_
          rotate_left
          · show Act.put _ (some 64) _ = _
            simp only [Act.put, List.setIfInBounds_toArray, List.set_cons_zero, List.set_cons_succ, i64_w, i32_w]
            rfl
          refine one_ (i := 8) (N := some 65) #[true, true, true, true, true, true, true, true, true, true, false, false, false, false, false, false, false, false, false] rfl rfl (by kernel_rfl) (by decide) (fun K hK => ?_)
          refine goes_ Try.func14 (by kernel_rfl) rfl #[.int .i64 rate, .int .i64 Q] (by rfl) rfl rfl (by simp only [List.map_toArray, List.map_cons, List.map_nil]; rfl) ?_
          with_reducible refine (CT.out _).mono ?_
          rintro e w3 ⟨rfl, hb⟩
          refine ⟨_, rfl, ?_⟩
          refine hK.out _ _ ⟨((World.cell?_of_block (hb.block _ hHeld.2.out.2)).trans hHeld.1), ⟨hHeld.2.out.1.below hb, Nat.lt_of_lt_of_le hHeld.2.out.2 hb.size⟩⟩ (fun hHeld => ?_)
          clear hK K
          refine norm_ (a' := ?_) ?_ ?_
          rotate_left
          · show Act.put _ (some 65) _ = _
            simp only [Act.put, List.setIfInBounds_toArray, List.set_cons_zero, List.set_cons_succ, i64_w, i32_w]
            rfl
          refine pure_ (i := 10) (N := some 67) (v := ?_) (a' := ?_) #[true, true, true, true, true, true, true, true, true, true, true, false, false, false, false, false, false, false, false] rfl rfl (by kernel_rfl) (fun _ _ _ h => h) (Or.inl ⟨by rfl, ?_⟩) ?_ ?_
          rotate_left
          · intro w'
            go_simp
            with_reducible rfl
          rotate_left
          · simp only [Act.put, List.setIfInBounds_toArray, List.set_cons_zero, List.set_cons_succ, i64_w, i32_w]
            rfl
          refine pure_ (i := 11) (N := some 68) (v := ?_) (a' := ?_) #[true, true, true, true, true, true, true, true, true, true, true, true, false, false, false, false, false, false, false] rfl rfl (by kernel_rfl) (fun _ _ _ h => h) (Or.inl ⟨by rfl, ?_⟩) ?_ ?_
          rotate_left
          · intro w'
            go_simp
            with_reducible rfl
          rotate_left
          · simp only [Act.put, List.setIfInBounds_toArray, List.set_cons_zero, List.set_cons_succ, i64_w, i32_w]
            rfl
          refine pure_ (i := 12) (N := some 69) (v := ?_) (a' := ?_) #[true, true, true, true, true, true, true, true, true, true, true, true, true, false, false, false, false, false, false] rfl rfl (by kernel_rfl) (fun _ _ _ h => h) (Or.inl ⟨by rfl, ?_⟩) ?_ ?_
          rotate_left
          · intro w'
            go_simp
            with_reducible rfl
          rotate_left
          · simp only [Act.put, List.setIfInBounds_toArray, List.set_cons_zero, List.set_cons_succ, i64_w, i32_w]
            rfl
          refine pure_ (i := 13) (N := some 70) (v := ?_) (a' := ?_) #[true, true, true, true, true, true, true, true, true, true, true, true, true, true, false, false, false, false, false] rfl rfl (by kernel_rfl) (fun _ _ _ h => h) (Or.inl ⟨by rfl, ?_⟩) ?_ ?_
          rotate_left
          · intro w'
            go_simp
            with_reducible rfl
          rotate_left
          · simp only [Act.put, List.setIfInBounds_toArray, List.set_cons_zero, List.set_cons_succ, i64_w, i32_w]
            rfl
          refine pure_ (i := 14) (N := some 71) (v := ?_) (a' := ?_) #[true, true, true, true, true, true, true, true, true, true, true, true, true, true, true, false, false, false, false] rfl rfl (by kernel_rfl) (fun _ _ _ h => h) (Or.inl ⟨by rfl, ?_⟩) ?_ ?_
          rotate_left
          · intro w'
            go_simp
            with_reducible rfl
          rotate_left
          · simp only [Act.put, List.setIfInBounds_toArray, List.set_cons_zero, List.set_cons_succ, i64_w, i32_w]
            rfl
          refine pure_ (i := 15) (N := some 72) (v := ?_) (a' := ?_) #[true, true, true, true, true, true, true, true, true, true, true, true, true, true, true, true, false, false, false] rfl rfl (by kernel_rfl) (fun _ _ _ h => h) (Or.inl ⟨by rfl, ?_⟩) ?_ ?_
          rotate_left
          · intro w'
            go_simp
            with_reducible rfl
          rotate_left
          · simp only [Act.put, List.setIfInBounds_toArray, List.set_cons_zero, List.set_cons_succ, i64_w, i32_w]
            rfl
          refine one_ (i := 16) (N := some 73) #[true, true, true, true, true, true, true, true, true, true, true, true, true, true, true, true, true, false, false] rfl rfl (by kernel_rfl) (by decide) (fun K hK => ?_)
          refine goes_ Try.func13 (by kernel_rfl) rfl #[.pointer (some ⟨g, 0, none⟩), .int .i64 B] (by rfl) rfl rfl (by simp only [List.map_toArray, List.map_cons, List.map_nil]; rfl) ?_
          with_reducible refine (CW.out _ hHeld.2.out.1).mono ?_
          rintro e w3 ⟨rfl, hb⟩
          refine ⟨_, rfl, ?_⟩
          refine hK.out _ _ ⟨((World.cell?_of_block (hb.block _ hHeld.2.out.2)).trans hHeld.1), ⟨hHeld.2.out.1.below hb, Nat.lt_of_lt_of_le hHeld.2.out.2 hb.size⟩⟩ (fun hHeld => ?_)
          clear hK K
          refine norm_ (a' := ?_) ?_ ?_
          rotate_left
          · show Act.put _ (some 73) _ = _
            simp only [Act.put, List.setIfInBounds_toArray, List.set_cons_zero, List.set_cons_succ, i64_w, i32_w]
            rfl
          refine pure_ (i := 17) (N := some 74) (v := ?_) (a' := ?_) #[true, true, true, true, true, true, true, true, true, true, true, true, true, true, true, true, true, true, false] rfl rfl (by kernel_rfl) (fun _ _ _ h => h) (Or.inl ⟨by rfl, ?_⟩) ?_ ?_
          rotate_left
          · intro w'
            go_simp
            with_reducible rfl
          rotate_left
          · simp only [Act.put, List.setIfInBounds_toArray, List.set_cons_zero, List.set_cons_succ, i64_w, i32_w]
            rfl
          refine pure_ (i := 18) (N := some 75) (v := ?_) (a' := ?_) #[true, true, true, true, true, true, true, true, true, true, true, true, true, true, true, true, true, true, true] rfl rfl (by kernel_rfl) (fun _ _ _ h => h) (Or.inl ⟨by rfl, ?_⟩) ?_ ?_
          rotate_left
          · intro w'
            go_simp
            with_reducible rfl
          rotate_left
          · simp only [Act.put, List.setIfInBounds_toArray, List.set_cons_zero, List.set_cons_succ, i64_w, i32_w]
            rfl
          refine done_ (by kernel_rfl) ?_
          have HE := hHeld.2
          clear hHeld HZ z0
          go_wp2_with fail
          exact ⟨⟨i + 1, B, y', rfl, by simp, by omega, by omega, by omega, ⟨HE.out.1⟩, HI3⟩, by simp [intOf]; omega⟩
        · have k3 : decide ((i : Int) < 200) = false := by simp; omega
          go_wp2_with fail
          refine (mod_any _).mono ?_
          rintro e w7 ⟨rfl, rfl⟩
          go_wp2_with fail
          refine (wakes_any _).mono ?_
          rintro e w7 ⟨rfl, hb⟩
          go_wp2_with fail
          go_ret
          exact ⟨rfl, HB0.out.trans ((hW.out.b.trans (hb.mono hW.out.b.size)).mono HB0.out.size)⟩
      · have k2 : decide ((i : Int) < (n2 : Int)) = false := by simp; omega
        go_wp2_with fail
        refine (mod_any _).mono ?_
        rintro e w7 ⟨rfl, rfl⟩
        go_wp2_with fail
        refine (wakes_any _).mono ?_
        rintro e w7 ⟨rfl, hb⟩
        go_wp2_with fail
        go_ret
        exact ⟨rfl, HB0.out.trans ((hW.out.b.trans (hb.mono hW.out.b.size)).mono HB0.out.size)⟩
    · have k1 : decide ((i : Int) < (n1 : Int)) = false := by simp; omega
      go_wp2_with fail
      refine (mod_any _).mono ?_
      rintro e w7 ⟨rfl, rfl⟩
      go_wp2_with fail
      refine (wakes_any _).mono ?_
      rintro e w7 ⟨rfl, hb⟩
      go_wp2_with fail
      go_ret
      exact ⟨rfl, HB0.out.trans ((hW.out.b.trans (hb.mono hW.out.b.size)).mono HB0.out.size)⟩
set_option maxHeartbeats 1000000 in
theorem waits_bad (rate delay lose skew : Int) (v1 v2 : Value) (w : World) (h3 : I64 skew) (hG : goodLk rate delay lose skew = false) :
    Calls Try.prog 4 #[.agg #[.int .i64 rate, .int .i64 delay, .int .i64 lose, .int .i64 skew], v1, v2] w fun e w' => e = .returned (.bool true) ∧ Below w.heap.size w w' := by
  have CN := Aside0.mk (fun w' => lknew_bad rate delay lose skew h3 w' hG)
  have CG := Aside0.mk (fun w' => rgood_any rate delay lose skew h3 w')
  rw [hG] at CG
  clear hG h3
  go_enter Try.func4, Try.ntmps4
  go_wp2_with fail
  have hB0 := (Below.refl w.heap.size w).alloc (Nat.le_refl _) (.cells #[.int .i64 rate, .int .i64 delay, .int .i64 lose, .int .i64 skew] 23)
  have E0 := blk_new w (.cells #[.int .i64 rate, .int .i64 delay, .int .i64 lose, .int .i64 skew] 23)
  refine (CN.out _).mono ?_
  rintro e w1 ⟨rfl, hb⟩
  have E1 := (hb.block _ (blk_lt E0)).trans E0
  have x0 := blk_cell E1 0
  have x1 := blk_cell E1 1
  have x2 := blk_cell E1 2
  have x3 := blk_cell E1 3
  simp only [List.getElem?_toArray, List.getElem?_cons_zero, List.getElem?_cons_succ] at x0 x1 x2 x3
  have hB1 := Aside0.mk (hB0.trans (hb.mono hB0.size))
  clear E0 E1 hb hB0
  go_wp2_with fail
  refine (CG.out _).mono ?_
  rintro e w2 ⟨rfl, hb⟩
  go_wp2_with fail
  refine (wakes_any _).mono ?_
  rintro e w3 ⟨rfl, hb3⟩
  go_wp2_with fail
  go_ret
  have hB2 := hB1.out.trans (hb.mono hB1.out.size)
  exact ⟨rfl, hB2.trans (hb3.mono hB2.size)⟩
theorem waits_true (rate delay lose skew : Int) (A1 : Option Addr) (c1 : Nat) (sz : List Int) (A2 : Option Addr) (c2 : Nat) (gp : List Int) (w : World) (h0 : I64 rate) (_ : I64 delay) (_ : I64 lose) (h3 : I64 skew)
    (hC1 : (Kd.int .u16).C w A1 sz.length sz) (_ : sz.length ≤ c1) (hm1 : sz.length ≤ maxLen) (hw1 : ∀ x ∈ sz, U16 x) (hC2 : (Kd.int .u16).C w A2 gp.length gp) (_ : gp.length ≤ c2) (hm2 : gp.length ≤ maxLen) (hw2 : ∀ x ∈ gp, U16 x) :
    Calls Try.prog 4 #[.agg #[.int .i64 rate, .int .i64 delay, .int .i64 lose, .int .i64 skew], .slice A1 sz.length c1, .slice A2 gp.length c2] w fun e w' => e = .returned (.bool true) ∧ Below w.heap.size w w' := by
  cases hG : goodLk rate delay lose skew with
  | true => exact waits_good rate delay lose skew A1 c1 sz A2 c2 gp w h0 h3 hG hC1 hw1 hC2 hw2 hm1 hm2
  | false => exact waits_bad rate delay lose skew _ _ w h3 hG
end Go.Proofs.Ytaghgjmcjmjfiaa.B
