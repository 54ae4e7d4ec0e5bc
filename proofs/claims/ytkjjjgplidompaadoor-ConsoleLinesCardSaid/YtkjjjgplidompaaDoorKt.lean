/-
  A step's line: the reference's way. Walk.
-/
import Derived.Test.YtkjjjgplidompaaDoorKn
import Derived.Test.YtkjjjgplidompaaDoorKr
namespace Go.Proofs.YtkjjjgplidompaaDoor.B
open Go.RowKit Go.Proofs.YtkjjjgplidompaaDoorW.PrintWords Go.Proofs.YtkjjjgplidompaaDoorW.PrintLast Go.Proofs.YtkjjjgplidompaaDoorW.PrintMore
set_option linter.unusedVariables false
set_option linter.unusedSimpArgs false
theorem rl_b {w0 w w' : World} {g : Nat} {o : Obj} (h : Aside0 (w.heap[g]? = some o ∧ Below w0.heap.size w0 w)) (hb : Below w.heap.size w w') : Aside0 (w'.heap[g]? = some o ∧ Below w0.heap.size w0 w') := ⟨(hb.block g (blk_ltI h.out.1)).trans h.out.1, h.out.2.trans (hb.mono h.out.2.size)⟩
theorem rl_dN {w0 w : World} {g : Nat} {o : Obj} (h : Aside0 (w.heap[g]? = some o ∧ Below w0.heap.size w0 w)) (m : Nat) : Aside0 ((w.drewN m).heap[g]? = some o ∧ Below w0.heap.size w0 (w.drewN m)) := rl_b h (pw_below_drewN (Below.refl _ w) m)
theorem rl_d {w0 w : World} {g : Nat} {o : Obj} (h : Aside0 (w.heap[g]? = some o ∧ Below w0.heap.size w0 w)) : Aside0 (w.drew.heap[g]? = some o ∧ Below w0.heap.size w0 w.drew) := ⟨h.out.1, h.out.2.drew⟩
theorem raw_2 {s : LStep} (h : s.kind = 2) : rawL s = [116, 32] ++ Lib.itoa s.at_ := by unfold rawL rawW; rw [if_pos h]; simp [Lib.join_cons, Lib.joinTail]
theorem raw_3 {s : LStep} (h : s.kind = 3) : rawL s = (([102, 32] ++ Lib.itoa s.at_) ++ [32]) ++ hexL s.data := by unfold rawL rawW; rw [if_neg (by omega), if_pos h]; simp [Lib.join_cons, Lib.joinTail]
theorem raw_1 {s : LStep} (h : s.kind = 1) : rawL s = (((((((([101, 32] ++ Lib.itoa s.at_) ++ [32]) ++ Lib.itoa s.id) ++ [32]) ++ Lib.itoa s.stream) ++ [32]) ++ Lib.itoa s.cls) ++ [32]) ++ Lib.itoa s.size := by unfold rawL rawW; rw [if_neg (by omega), if_neg (by omega), if_pos h]; simp [Lib.join_cons, Lib.joinTail]
def rlineF (s : LStep) (g1 : Nat) (L : List UInt8) (q : Nat → Value) : Act := { tmps := #[stV s, .pointer (some ⟨g1, 0, none⟩), q 2, q 3, .string (tx L), q 5, q 6, q 7, q 8, q 9, q 10, q 11, q 12, q 13, q 14, q 15, q 16, q 17, q 18, q 19, q 20, q 21, q 22, q 23, q 24, q 25, q 26, q 27, q 28, q 29, q 30, q 31, q 32, q 33, q 34, q 35, q 36, q 37, q 38, q 39, q 40, q 41, q 42, q 43, q 44, q 45, q 46, q 47, q 48, q 49, q 50, q 51, q 52, q 53, q 54, q 55, q 56, q 57, q 58, q 59, q 60, q 61, q 62, q 63, q 64, q 65, q 66, q 67, q 68, q 69], defers := [] }
set_option maxHeartbeats 4000000 in
set_option maxRecDepth 100000 in
theorem rline_tail (s : LStep) (w0 : World) (g1 : Nat) (L : List UInt8) (hL : L = rawL s) (rest : Code) (hr : tl1 (tl1 (tl1 (Tryd.f12.body.getD .skip))) = rest) (q : Nat → Value) (w : World) (hG : Aside0 (w.heap[g1]? = some (.cells (stC s.kind s.at_ s.id s.stream s.cls s.size s.data) 26 (0, 0)) ∧ Below w0.heap.size w0 w)) (hlen : (rawL s).length ≤ 900000) :
    rest.wp Tryd.prog (bodyPost Tryd.prog Tryd.f12 (LinePost s w0)) (rlineF s g1 L q) w := by
  have e := hr.symm.trans (show tl1 (tl1 (tl1 (Tryd.f12.body.getD .skip))) = .seq _ _ from rfl)
  subst e
  rw [← hL] at hlen
  have HL := Aside0.mk hL
  clear hL hr
  unfold rlineF
  go_wp2_with fail
  refine (rparse_any (tx L) w (by rw [tx_size]; omega)).mono ?_
  rintro e w4 ⟨rfl, hb4⟩
  rw [tx_data]
  have HG4 := rl_b hG hb4
  have XB := Aside0.mk (fun cs => HG4.out.2.alloc HG4.out.2.size (.cells cs 26))
  clear hb4 hG
  cases hp : parseL L with
  | none =>
    rw [parV_none hp]
    have HP : Aside0 (lineV s = .tuple #[.string (tx []), .int .i64 1]) := ⟨lineV_none (by
      unfold lineL
      rw [if_neg]
      rw [← HL.out, hp]
      exact fun h => by cases h)⟩
    clear hp
    unfold stV stC stZ
    dsimp only
    go_wp2_with fail
    go_ret2
    exact ⟨by rw [HP.out]; rfl, XB.out _⟩
  | some st =>
    rw [parV_some hp]
    have K1 := HG4.out.1
    have hcs : ∀ o, (((w4.alloc o).cell? ⟨g1, 0, none⟩ = some (.int .i64 s.kind)) ∧ ((w4.alloc o).cell? ⟨g1, 1, none⟩ = some (.int .i64 s.at_)) ∧ ((w4.alloc o).cell? ⟨g1, 2, none⟩ = some (.int .i64 s.id)) ∧ ((w4.alloc o).cell? ⟨g1, 3, none⟩ = some (.int .i64 s.stream)) ∧ ((w4.alloc o).cell? ⟨g1, 4, none⟩ = some (.int .i64 s.cls)) ∧ ((w4.alloc o).cell? ⟨g1, 5, none⟩ = some (.int .i64 s.size)) ∧ ((w4.alloc o).cell? ⟨g1, 6, none⟩ = some (.string (tx s.data)))) := fun o => (stcells ((Below.heap_alloc w4 o g1 (blk_ltI K1)).trans K1)).1
    have c0 := fun o => (hcs o).1
    have c1 := fun o => (hcs o).2.1
    have c2 := fun o => (hcs o).2.2.1
    have c3 := fun o => (hcs o).2.2.2.1
    have c4 := fun o => (hcs o).2.2.2.2.1
    have c5 := fun o => (hcs o).2.2.2.2.2.1
    have c6 := fun o => (hcs o).2.2.2.2.2.2
    clear hcs K1
    have HS := Aside0.mk (fun w => same_any st s w)
    obtain ⟨b, hb⟩ : ∃ b, b = sameB st s := ⟨_, rfl⟩
    rw [← hb] at HS
    cases b with
    | true =>
      have HP : Aside0 (lineV s = .tuple #[.string (tx L), .int .i64 0]) := ⟨lineV_some (by
        have e := sameB_eq hb.symm
        rw [e] at hp
        unfold lineL
        rw [← HL.out, if_pos hp])⟩
      clear hp hb
      unfold stV stC
      go_wp2_with fail
      refine (HS.out _).mono ?_
      rintro e w5 ⟨rfl, hb5⟩
      have HB5 := Aside0.mk ((XB.out _).trans (hb5.mono (XB.out _).size))
      clear hb5
      go_wp2_with fail
      go_ret2
      exact ⟨by rw [HP.out]; rfl, HB5.out⟩
    | false =>
      have HP : Aside0 (lineV s = .tuple #[.string (tx []), .int .i64 1]) := ⟨lineV_none (by
        unfold lineL
        rw [if_neg]
        rw [← HL.out, hp]
        intro h
        have e : st = s := Option.some.inj h
        rw [e, sameB_true] at hb
        cases hb)⟩
      clear hp hb
      unfold stV stC
      go_wp2_with fail
      refine (HS.out _).mono ?_
      rintro e w5 ⟨rfl, hb5⟩
      have HB5 := Aside0.mk ((XB.out _).trans (hb5.mono (XB.out _).size))
      clear hb5
      go_wp2_with fail
      go_ret2
      exact ⟨by rw [HP.out]; rfl, HB5.out⟩
theorem rline_tail_a (s : LStep) (w0 : World) (g1 : Nat) (L : List UInt8) (hL : L = rawL s) (rest : Code) (hr : tl1 (tl1 (tl1 (Tryd.f12.body.getD .skip))) = rest) (a : Act) (ha : a = rlineF s g1 L (fun i => a.tmps.getD i undef)) (w : World) (hG : Aside0 (w.heap[g1]? = some (.cells (stC s.kind s.at_ s.id s.stream s.cls s.size s.data) 26 (0, 0)) ∧ Below w0.heap.size w0 w)) (hlen : (rawL s).length ≤ 900000) :
    rest.wp Tryd.prog (bodyPost Tryd.prog Tryd.f12 (LinePost s w0)) a w := by
  rw [ha]
  exact rline_tail s w0 g1 L hL rest hr _ w hG hlen
set_option maxHeartbeats 4000000 in
set_option maxRecDepth 100000 in
theorem rline_any (s : LStep) (w : World) (hs : StI s) : Calls Tryd.prog 12 #[stV s] w (LinePost s w) := by
  have HRL := Aside0.mk (raw_len s hs)
  have HS := Aside0.mk hs
  obtain ⟨k, hk⟩ : ∃ k, k = s.kind := ⟨_, rfl⟩
  have l0 := itoa_len s.at_ hs.a.1 hs.a.2
  have l1 := itoa_len s.id hs.p.1 hs.p.2
  have l2 := itoa_len s.stream hs.q.1 hs.q.2
  have l3 := itoa_len s.cls hs.u.1 hs.u.2
  have l4 := itoa_len s.size hs.v.1 hs.v.2
  have l6 := hexL_len s.data
  have l7 := hs.d
  have D0 := Aside0.mk (fun w => dec_any s.at_ hs.a.1 hs.a.2 w)
  have D1 := Aside0.mk (fun w => dec_any s.id hs.p.1 hs.p.2 w)
  have D2 := Aside0.mk (fun w => dec_any s.stream hs.q.1 hs.q.2 w)
  have D3 := Aside0.mk (fun w => dec_any s.cls hs.u.1 hs.u.2 w)
  have D4 := Aside0.mk (fun w => dec_any s.size hs.v.1 hs.v.2 w)
  have DH := Aside0.mk (fun w => rhex_any (tx s.data) w (by rw [tx_size]; omega))
  rw [tx_data] at DH
  clear hs
  go_enter Tryd.func12, Tryd.ntmps12
  unfold stV stC
  refine wp_seq_k (fun K1 h1 => ?_)
  have H1 := Aside0.mk h1
  clear h1
  go_wp2_with fail
  (try simp only [Exit.then])
  refine H1.out _ _ (wp_seq_k (fun K2 h2 => ?_))
  have H2 := Aside0.mk h2
  clear h2 H1
  obtain ⟨g1, hg1⟩ : ∃ g, g = w.heap.size := ⟨_, rfl⟩
  obtain ⟨W1, hW1⟩ : ∃ W1, W1 = w.alloc (.cells #[.int .i64 s.kind, .int .i64 s.at_, .int .i64 s.id, .int .i64 s.stream, .int .i64 s.cls, .int .i64 s.size, .string (tx s.data)] 26) := ⟨_, rfl⟩
  have k1 : W1.heap[g1]? = some (.cells (stC s.kind s.at_ s.id s.stream s.cls s.size s.data) 26 (0, 0)) := by rw [hW1, hg1]; exact blk_new w _
  have HG : Aside0 (W1.heap[g1]? = some (.cells (stC s.kind s.at_ s.id s.stream s.cls s.size s.data) 26 (0, 0)) ∧ Below w.heap.size w W1) := ⟨k1, by rw [hW1]; exact (Below.refl _ w).alloc (Nat.le_refl _) _⟩
  rw [← hg1, ← hW1]
  obtain ⟨⟨c0, c1, c2, c3, c4, c5, c6⟩, -⟩ := stcells k1
  clear k1 hg1 hW1
  rw [← hk] at c0
  have HK := Aside0.mk hk
  rw [← hk]
  clear hk
  go_wp2_with fail
  (try simp only [Exit.then])
  refine H2.out _ _ ?_
  clear H2
  by_cases h2 : k = 2
  · have q2 : (k == 2) = true := by rw [h2]; rfl
    have HR := Aside0.mk (raw_2 (HK.out.symm.trans h2))
    clear h2
    refine wp_seq_k (fun K3 h3 => ?_)
    have H3 := Aside0.mk h3
    clear h3
    obtain ⟨A, hA⟩ : ∃ A, A = Lib.itoa s.at_ := ⟨_, rfl⟩
    rw [← hA] at HR D0 l0
    have a1 := add_run [116, 32] A (by simp; omega)
    obtain ⟨T, hT⟩ : ∃ T, T = [116, 32] ++ A := ⟨_, rfl⟩
    rw [← hT] at a1 HR
    clear hA hT
    go_wp2_with fail
    refine (D0.out _).mono ?_
    rintro e w2 ⟨rfl, m, rfl⟩
    go_wp2_with fail
    (try simp only [Exit.then])
    refine H3.out _ _ (rline_tail_a s w g1 T HR.out.symm _ rfl _ (by unfold rlineF stV stC; rw [← HK.out]; rfl) _ (rl_dN HG m) HRL.out)
  have q2 : (k == 2) = false := beq_eq_false_iff_ne.2 h2
  by_cases h3 : k = 3
  · have q3 : (k == 3) = true := by rw [h3]; rfl
    have HR := Aside0.mk (raw_3 (HK.out.symm.trans h3))
    clear h2 h3
    refine wp_seq_k (fun K3 h3 => ?_)
    have H3 := Aside0.mk h3
    clear h3
    obtain ⟨A, hA⟩ : ∃ A, A = Lib.itoa s.at_ := ⟨_, rfl⟩
    rw [← hA] at HR D0 l0
    obtain ⟨X, hX⟩ : ∃ X, X = hexL s.data := ⟨_, rfl⟩
    rw [← hX] at HR DH l6
    have a1 := add_run [102, 32] A (by simp; omega)
    have a2 := add_run ([102, 32] ++ A) [32] (by simp; omega)
    have a3 := add_run ([102, 32] ++ A ++ [32]) X (by simp; omega)
    obtain ⟨T3, hT3⟩ : ∃ T, T = [102, 32] ++ A ++ [32] ++ X := ⟨_, rfl⟩
    rw [← hT3] at a3 HR
    obtain ⟨T2, hT2⟩ : ∃ T, T = [102, 32] ++ A ++ [32] := ⟨_, rfl⟩
    rw [← hT2] at a2 a3
    obtain ⟨T1, hT1⟩ : ∃ T, T = [102, 32] ++ A := ⟨_, rfl⟩
    rw [← hT1] at a1 a2
    clear hA hX hT1 hT2 hT3
    go_wp2_with fail
    refine start_ (n := 10) (S := fun w' => w'.cell? ⟨g1, 1, none⟩ = some (.int .i64 s.at_) ∧ w'.cell? ⟨g1, 6, none⟩ = some (.string (tx s.data)) ∧ Aside0 (w'.heap[g1]? = some (.cells (stC s.kind s.at_ s.id s.stream s.cls s.size s.data) 26 (0, 0)) ∧ Below w.heap.size w w')) (ds := []) #[false, false, false, false, false, false, false, false, false, false] (by kernel_rfl) rfl rfl ⟨c1, c6, (rl_d HG)⟩ (fun hHeld => ?_)
    refine pure_ (i := 0) (N := some 17) (v := ?_) (a' := ?_) #[true, false, false, false, false, false, false, false, false, false] rfl rfl (by kernel_rfl) (fun _ _ _ h => h) (Or.inl ⟨by rfl, ?_⟩) ?_ ?_
    rotate_left
    · intro w'
      go_simp
      with_reducible rfl
    rotate_left
    · simp only [Act.put, List.setIfInBounds_toArray, List.set_cons_zero, List.set_cons_succ, i64_w, i32_w]
      rfl
    refine pure_ (i := 5) (N := some 22) (v := ?_) (a' := ?_) #[true, false, false, false, false, true, false, false, false, false] rfl rfl (by kernel_rfl) (fun _ _ _ h => h) (Or.inl ⟨by rfl, ?_⟩) ?_ ?_
    rotate_left
    · intro w'
      go_simp
      with_reducible rfl
    rotate_left
    · simp only [Act.put, List.setIfInBounds_toArray, List.set_cons_zero, List.set_cons_succ, i64_w, i32_w]
      rfl
    refine take_ (i := 1) (N := some 18) (v := ?_) (a' := ?_) #[true, true, false, false, false, true, false, false, false, false] rfl rfl (by kernel_rfl) (fun _ _ _ h => h) (Or.inl ⟨by rfl, ?_⟩) hHeld ?_ ?_
    rotate_left
    · rintro w' ⟨s0, s1, s2⟩
      go_simp
      with_reducible rfl
    rotate_left
    · simp only [Act.put, List.setIfInBounds_toArray, List.set_cons_zero, List.set_cons_succ, i64_w, i32_w]
      rfl
    refine take_ (i := 6) (N := some 23) (v := ?_) (a' := ?_) #[true, true, false, false, false, true, true, false, false, false] rfl rfl (by kernel_rfl) (fun _ _ _ h => h) (Or.inl ⟨by rfl, ?_⟩) hHeld ?_ ?_
    rotate_left
    · rintro w' ⟨s0, s1, s2⟩
      go_simp
      with_reducible rfl
    rotate_left
    · simp only [Act.put, List.setIfInBounds_toArray, List.set_cons_zero, List.set_cons_succ, i64_w, i32_w]
      rfl
    refine one_ (i := 2) (N := some 19) #[true, true, true, false, false, true, true, false, false, false] rfl rfl (by kernel_rfl) (by decide) (fun K hK => ?_)
    refine goes_ Tryd.func25 (by kernel_rfl) rfl #[.int .i64 s.at_] (by rfl) rfl rfl (by simp only [List.map_toArray, List.map_cons, List.map_nil]; rfl) ?_
    with_reducible refine (D0.out _).mono ?_
    rintro e w3 ⟨rfl, m, rfl⟩
    refine ⟨_, rfl, ?_⟩
    refine hK.out _ _ ⟨(stcells (rl_dN hHeld.2.2 m).out.1).1.2.1, (stcells (rl_dN hHeld.2.2 m).out.1).1.2.2.2.2.2.2, (rl_dN hHeld.2.2 m)⟩ (fun hHeld => ?_)
    clear hK K
    refine norm_ (a' := ?_) ?_ ?_
    rotate_left
    · show Act.put _ (some 19) _ = _
      simp only [Act.put, List.setIfInBounds_toArray, List.set_cons_zero, List.set_cons_succ, i64_w, i32_w]
      rfl
    refine pure_ (i := 3) (N := some 20) (v := ?_) (a' := ?_) #[true, true, true, true, false, true, true, false, false, false] rfl rfl (by kernel_rfl) (fun _ _ _ h => h) (Or.inl ⟨by rfl, ?_⟩) ?_ ?_
    rotate_left
    · intro w'
      go_simp
      with_reducible rfl
    rotate_left
    · simp only [Act.put, List.setIfInBounds_toArray, List.set_cons_zero, List.set_cons_succ, i64_w, i32_w]
      rfl
    refine pure_ (i := 4) (N := some 21) (v := ?_) (a' := ?_) #[true, true, true, true, true, true, true, false, false, false] rfl rfl (by kernel_rfl) (fun _ _ _ h => h) (Or.inl ⟨by rfl, ?_⟩) ?_ ?_
    rotate_left
    · intro w'
      go_simp
      with_reducible rfl
    rotate_left
    · simp only [Act.put, List.setIfInBounds_toArray, List.set_cons_zero, List.set_cons_succ, i64_w, i32_w]
      rfl
    refine one_ (i := 7) (N := some 24) #[true, true, true, true, true, true, true, true, false, false] rfl rfl (by kernel_rfl) (by decide) (fun K hK => ?_)
    refine goes_ Tryd.func26 (by kernel_rfl) rfl #[.string (tx s.data)] (by rfl) rfl rfl (by simp only [List.map_toArray, List.map_cons, List.map_nil]; rfl) ?_
    with_reducible refine (DH.out _).mono ?_
    rintro e w3 ⟨rfl, hb⟩
    refine ⟨_, rfl, ?_⟩
    refine hK.out _ _ ⟨(stcells (rl_b hHeld.2.2 hb).out.1).1.2.1, (stcells (rl_b hHeld.2.2 hb).out.1).1.2.2.2.2.2.2, (rl_b hHeld.2.2 hb)⟩ (fun hHeld => ?_)
    clear hK K
    refine norm_ (a' := ?_) ?_ ?_
    rotate_left
    · show Act.put _ (some 24) _ = _
      simp only [Act.put, List.setIfInBounds_toArray, List.set_cons_zero, List.set_cons_succ, i64_w, i32_w]
      rfl
    refine pure_ (i := 8) (N := some 25) (v := ?_) (a' := ?_) #[true, true, true, true, true, true, true, true, true, false] rfl rfl (by kernel_rfl) (fun _ _ _ h => h) (Or.inl ⟨by rfl, ?_⟩) ?_ ?_
    rotate_left
    · intro w'
      go_simp
      with_reducible rfl
    rotate_left
    · simp only [Act.put, List.setIfInBounds_toArray, List.set_cons_zero, List.set_cons_succ, i64_w, i32_w]
      rfl
    refine pure_ (i := 9) (N := some 4) (v := ?_) (a' := ?_) #[true, true, true, true, true, true, true, true, true, true] rfl rfl (by kernel_rfl) (fun _ _ _ h => h) (Or.inl ⟨by rfl, ?_⟩) ?_ ?_
    rotate_left
    · intro w'
      go_simp
      with_reducible rfl
    rotate_left
    · simp only [Act.put, List.setIfInBounds_toArray, List.set_cons_zero, List.set_cons_succ, i64_w, i32_w]
      rfl
    refine done_ (by kernel_rfl) ?_
    go_wp2_with fail
    (try simp only [Exit.then])
    refine H3.out _ _ (rline_tail_a s w g1 T3 HR.out.symm _ rfl _ (by unfold rlineF stV stC; rw [← HK.out]; rfl) _ hHeld.2.2 HRL.out)
  have q3 : (k == 3) = false := beq_eq_false_iff_ne.2 h3
  by_cases h1 : k = 1
  · have q1 : (k == 1) = true := by rw [h1]; rfl
    have HR := Aside0.mk (raw_1 (HK.out.symm.trans h1))
    clear h2 h3 h1
    refine wp_seq_k (fun K3 h3 => ?_)
    have H3 := Aside0.mk h3
    clear h3
    obtain ⟨A, hA⟩ : ∃ A, A = Lib.itoa s.at_ := ⟨_, rfl⟩
    rw [← hA] at HR D0 l0
    obtain ⟨B, hB⟩ : ∃ A, A = Lib.itoa s.id := ⟨_, rfl⟩
    rw [← hB] at HR D1 l1
    obtain ⟨C, hC⟩ : ∃ A, A = Lib.itoa s.stream := ⟨_, rfl⟩
    rw [← hC] at HR D2 l2
    obtain ⟨D, hD⟩ : ∃ A, A = Lib.itoa s.cls := ⟨_, rfl⟩
    rw [← hD] at HR D3 l3
    obtain ⟨E, hE⟩ : ∃ A, A = Lib.itoa s.size := ⟨_, rfl⟩
    rw [← hE] at HR D4 l4
    clear hA hB hC hD hE
    have a1 := add_run [101, 32] A (by simp; omega)
    have a2 := add_run ([101, 32] ++ A) [32] (by simp; omega)
    have a3 := add_run ([101, 32] ++ A ++ [32]) B (by simp; omega)
    have a4 := add_run ([101, 32] ++ A ++ [32] ++ B) [32] (by simp; omega)
    have a5 := add_run ([101, 32] ++ A ++ [32] ++ B ++ [32]) C (by simp; omega)
    have a6 := add_run ([101, 32] ++ A ++ [32] ++ B ++ [32] ++ C) [32] (by simp; omega)
    have a7 := add_run ([101, 32] ++ A ++ [32] ++ B ++ [32] ++ C ++ [32]) D (by simp; omega)
    have a8 := add_run ([101, 32] ++ A ++ [32] ++ B ++ [32] ++ C ++ [32] ++ D) [32] (by simp; omega)
    have a9 := add_run ([101, 32] ++ A ++ [32] ++ B ++ [32] ++ C ++ [32] ++ D ++ [32]) E (by simp; omega)
    obtain ⟨T9, hT9⟩ : ∃ T, T = [101, 32] ++ A ++ [32] ++ B ++ [32] ++ C ++ [32] ++ D ++ [32] ++ E := ⟨_, rfl⟩
    rw [← hT9] at a9 HR
    obtain ⟨T8, hT8⟩ : ∃ T, T = [101, 32] ++ A ++ [32] ++ B ++ [32] ++ C ++ [32] ++ D ++ [32] := ⟨_, rfl⟩
    rw [← hT8] at a9 a8
    obtain ⟨T7, hT7⟩ : ∃ T, T = [101, 32] ++ A ++ [32] ++ B ++ [32] ++ C ++ [32] ++ D := ⟨_, rfl⟩
    rw [← hT7] at a8 a7
    obtain ⟨T6, hT6⟩ : ∃ T, T = [101, 32] ++ A ++ [32] ++ B ++ [32] ++ C ++ [32] := ⟨_, rfl⟩
    rw [← hT6] at a7 a6
    obtain ⟨T5, hT5⟩ : ∃ T, T = [101, 32] ++ A ++ [32] ++ B ++ [32] ++ C := ⟨_, rfl⟩
    rw [← hT5] at a6 a5
    obtain ⟨T4, hT4⟩ : ∃ T, T = [101, 32] ++ A ++ [32] ++ B ++ [32] := ⟨_, rfl⟩
    rw [← hT4] at a5 a4
    obtain ⟨T3, hT3⟩ : ∃ T, T = [101, 32] ++ A ++ [32] ++ B := ⟨_, rfl⟩
    rw [← hT3] at a4 a3
    obtain ⟨T2, hT2⟩ : ∃ T, T = [101, 32] ++ A ++ [32] := ⟨_, rfl⟩
    rw [← hT2] at a3 a2
    obtain ⟨T1, hT1⟩ : ∃ T, T = [101, 32] ++ A := ⟨_, rfl⟩
    rw [← hT1] at a2 a1
    clear hT1 hT2 hT3 hT4 hT5 hT6 hT7 hT8 hT9 l0 l1 l2 l3 l4 l6 l7 DH
    go_wp2_with fail
    refine start_ (n := 29) (S := fun w' => w'.cell? ⟨g1, 1, none⟩ = some (.int .i64 s.at_) ∧ w'.cell? ⟨g1, 2, none⟩ = some (.int .i64 s.id) ∧ w'.cell? ⟨g1, 3, none⟩ = some (.int .i64 s.stream) ∧ w'.cell? ⟨g1, 4, none⟩ = some (.int .i64 s.cls) ∧ w'.cell? ⟨g1, 5, none⟩ = some (.int .i64 s.size) ∧ Aside0 (w'.heap[g1]? = some (.cells (stC s.kind s.at_ s.id s.stream s.cls s.size s.data) 26 (0, 0)) ∧ Below w.heap.size w w')) (ds := []) #[false, false, false, false, false, false, false, false, false, false, false, false, false, false, false, false, false, false, false, false, false, false, false, false, false, false, false, false, false] (by kernel_rfl) rfl rfl ⟨c1, c2, c3, c4, c5, (rl_d HG)⟩ (fun hHeld => ?_)
    refine pure_ (i := 0) (N := some 28) (v := ?_) (a' := ?_) #[true, false, false, false, false, false, false, false, false, false, false, false, false, false, false, false, false, false, false, false, false, false, false, false, false, false, false, false, false] rfl rfl (by kernel_rfl) (fun _ _ _ h => h) (Or.inl ⟨by rfl, ?_⟩) ?_ ?_
    rotate_left
    · intro w'
      go_simp
      with_reducible rfl
    rotate_left
    · simp only [Act.put, List.setIfInBounds_toArray, List.set_cons_zero, List.set_cons_succ, i64_w, i32_w]
      rfl
    refine pure_ (i := 5) (N := some 33) (v := ?_) (a' := ?_) #[true, false, false, false, false, true, false, false, false, false, false, false, false, false, false, false, false, false, false, false, false, false, false, false, false, false, false, false, false] rfl rfl (by kernel_rfl) (fun _ _ _ h => h) (Or.inl ⟨by rfl, ?_⟩) ?_ ?_
    rotate_left
    · intro w'
      go_simp
      with_reducible rfl
    rotate_left
    · simp only [Act.put, List.setIfInBounds_toArray, List.set_cons_zero, List.set_cons_succ, i64_w, i32_w]
      rfl
    refine pure_ (i := 6) (N := some 34) (v := ?_) (a' := ?_) #[true, false, false, false, false, true, true, false, false, false, false, false, false, false, false, false, false, false, false, false, false, false, false, false, false, false, false, false, false] rfl rfl (by kernel_rfl) (fun _ _ _ h => h) (Or.inl ⟨by rfl, ?_⟩) ?_ ?_
    rotate_left
    · intro w'
      go_simp
      with_reducible rfl
    rotate_left
    · simp only [Act.put, List.setIfInBounds_toArray, List.set_cons_zero, List.set_cons_succ, i64_w, i32_w]
      rfl
    refine pure_ (i := 11) (N := some 39) (v := ?_) (a' := ?_) #[true, false, false, false, false, true, true, false, false, false, false, true, false, false, false, false, false, false, false, false, false, false, false, false, false, false, false, false, false] rfl rfl (by kernel_rfl) (fun _ _ _ h => h) (Or.inl ⟨by rfl, ?_⟩) ?_ ?_
    rotate_left
    · intro w'
      go_simp
      with_reducible rfl
    rotate_left
    · simp only [Act.put, List.setIfInBounds_toArray, List.set_cons_zero, List.set_cons_succ, i64_w, i32_w]
      rfl
    refine pure_ (i := 12) (N := some 40) (v := ?_) (a' := ?_) #[true, false, false, false, false, true, true, false, false, false, false, true, true, false, false, false, false, false, false, false, false, false, false, false, false, false, false, false, false] rfl rfl (by kernel_rfl) (fun _ _ _ h => h) (Or.inl ⟨by rfl, ?_⟩) ?_ ?_
    rotate_left
    · intro w'
      go_simp
      with_reducible rfl
    rotate_left
    · simp only [Act.put, List.setIfInBounds_toArray, List.set_cons_zero, List.set_cons_succ, i64_w, i32_w]
      rfl
    refine pure_ (i := 17) (N := some 45) (v := ?_) (a' := ?_) #[true, false, false, false, false, true, true, false, false, false, false, true, true, false, false, false, false, true, false, false, false, false, false, false, false, false, false, false, false] rfl rfl (by kernel_rfl) (fun _ _ _ h => h) (Or.inl ⟨by rfl, ?_⟩) ?_ ?_
    rotate_left
    · intro w'
      go_simp
      with_reducible rfl
    rotate_left
    · simp only [Act.put, List.setIfInBounds_toArray, List.set_cons_zero, List.set_cons_succ, i64_w, i32_w]
      rfl
    refine pure_ (i := 18) (N := some 46) (v := ?_) (a' := ?_) #[true, false, false, false, false, true, true, false, false, false, false, true, true, false, false, false, false, true, true, false, false, false, false, false, false, false, false, false, false] rfl rfl (by kernel_rfl) (fun _ _ _ h => h) (Or.inl ⟨by rfl, ?_⟩) ?_ ?_
    rotate_left
    · intro w'
      go_simp
      with_reducible rfl
    rotate_left
    · simp only [Act.put, List.setIfInBounds_toArray, List.set_cons_zero, List.set_cons_succ, i64_w, i32_w]
      rfl
    refine pure_ (i := 23) (N := some 51) (v := ?_) (a' := ?_) #[true, false, false, false, false, true, true, false, false, false, false, true, true, false, false, false, false, true, true, false, false, false, false, true, false, false, false, false, false] rfl rfl (by kernel_rfl) (fun _ _ _ h => h) (Or.inl ⟨by rfl, ?_⟩) ?_ ?_
    rotate_left
    · intro w'
      go_simp
      with_reducible rfl
    rotate_left
    · simp only [Act.put, List.setIfInBounds_toArray, List.set_cons_zero, List.set_cons_succ, i64_w, i32_w]
      rfl
    refine pure_ (i := 24) (N := some 52) (v := ?_) (a' := ?_) #[true, false, false, false, false, true, true, false, false, false, false, true, true, false, false, false, false, true, true, false, false, false, false, true, true, false, false, false, false] rfl rfl (by kernel_rfl) (fun _ _ _ h => h) (Or.inl ⟨by rfl, ?_⟩) ?_ ?_
    rotate_left
    · intro w'
      go_simp
      with_reducible rfl
    rotate_left
    · simp only [Act.put, List.setIfInBounds_toArray, List.set_cons_zero, List.set_cons_succ, i64_w, i32_w]
      rfl
    refine take_ (i := 1) (N := some 29) (v := ?_) (a' := ?_) #[true, true, false, false, false, true, true, false, false, false, false, true, true, false, false, false, false, true, true, false, false, false, false, true, true, false, false, false, false] rfl rfl (by kernel_rfl) (fun _ _ _ h => h) (Or.inl ⟨by rfl, ?_⟩) hHeld ?_ ?_
    rotate_left
    · rintro w' ⟨s0, s1, s2, s3, s4, s5⟩
      go_simp
      with_reducible rfl
    rotate_left
    · simp only [Act.put, List.setIfInBounds_toArray, List.set_cons_zero, List.set_cons_succ, i64_w, i32_w]
      rfl
    refine take_ (i := 7) (N := some 35) (v := ?_) (a' := ?_) #[true, true, false, false, false, true, true, true, false, false, false, true, true, false, false, false, false, true, true, false, false, false, false, true, true, false, false, false, false] rfl rfl (by kernel_rfl) (fun _ _ _ h => h) (Or.inl ⟨by rfl, ?_⟩) hHeld ?_ ?_
    rotate_left
    · rintro w' ⟨s0, s1, s2, s3, s4, s5⟩
      go_simp
      with_reducible rfl
    rotate_left
    · simp only [Act.put, List.setIfInBounds_toArray, List.set_cons_zero, List.set_cons_succ, i64_w, i32_w]
      rfl
    refine take_ (i := 13) (N := some 41) (v := ?_) (a' := ?_) #[true, true, false, false, false, true, true, true, false, false, false, true, true, true, false, false, false, true, true, false, false, false, false, true, true, false, false, false, false] rfl rfl (by kernel_rfl) (fun _ _ _ h => h) (Or.inl ⟨by rfl, ?_⟩) hHeld ?_ ?_
    rotate_left
    · rintro w' ⟨s0, s1, s2, s3, s4, s5⟩
      go_simp
      with_reducible rfl
    rotate_left
    · simp only [Act.put, List.setIfInBounds_toArray, List.set_cons_zero, List.set_cons_succ, i64_w, i32_w]
      rfl
    refine take_ (i := 19) (N := some 47) (v := ?_) (a' := ?_) #[true, true, false, false, false, true, true, true, false, false, false, true, true, true, false, false, false, true, true, true, false, false, false, true, true, false, false, false, false] rfl rfl (by kernel_rfl) (fun _ _ _ h => h) (Or.inl ⟨by rfl, ?_⟩) hHeld ?_ ?_
    rotate_left
    · rintro w' ⟨s0, s1, s2, s3, s4, s5⟩
      go_simp
      with_reducible rfl
    rotate_left
    · simp only [Act.put, List.setIfInBounds_toArray, List.set_cons_zero, List.set_cons_succ, i64_w, i32_w]
      rfl
    refine take_ (i := 25) (N := some 53) (v := ?_) (a' := ?_) #[true, true, false, false, false, true, true, true, false, false, false, true, true, true, false, false, false, true, true, true, false, false, false, true, true, true, false, false, false] rfl rfl (by kernel_rfl) (fun _ _ _ h => h) (Or.inl ⟨by rfl, ?_⟩) hHeld ?_ ?_
    rotate_left
    · rintro w' ⟨s0, s1, s2, s3, s4, s5⟩
      go_simp
      with_reducible rfl
    rotate_left
    · simp only [Act.put, List.setIfInBounds_toArray, List.set_cons_zero, List.set_cons_succ, i64_w, i32_w]
      rfl
    refine one_ (i := 2) (N := some 30) #[true, true, true, false, false, true, true, true, false, false, false, true, true, true, false, false, false, true, true, true, false, false, false, true, true, true, false, false, false] rfl rfl (by kernel_rfl) (by decide) (fun K hK => ?_)
    refine goes_ Tryd.func25 (by kernel_rfl) rfl #[.int .i64 s.at_] (by rfl) rfl rfl (by simp only [List.map_toArray, List.map_cons, List.map_nil]; rfl) ?_
    with_reducible refine (D0.out _).mono ?_
    rintro e w3 ⟨rfl, m, rfl⟩
    refine ⟨_, rfl, ?_⟩
    refine hK.out _ _ ⟨(stcells (rl_dN hHeld.2.2.2.2.2 m).out.1).1.2.1, (stcells (rl_dN hHeld.2.2.2.2.2 m).out.1).1.2.2.1, (stcells (rl_dN hHeld.2.2.2.2.2 m).out.1).1.2.2.2.1, (stcells (rl_dN hHeld.2.2.2.2.2 m).out.1).1.2.2.2.2.1, (stcells (rl_dN hHeld.2.2.2.2.2 m).out.1).1.2.2.2.2.2.1, (rl_dN hHeld.2.2.2.2.2 m)⟩ (fun hHeld => ?_)
    clear hK K
    refine norm_ (a' := ?_) ?_ ?_
    rotate_left
    · show Act.put _ (some 30) _ = _
      simp only [Act.put, List.setIfInBounds_toArray, List.set_cons_zero, List.set_cons_succ, i64_w, i32_w]
      rfl
    refine pure_ (i := 3) (N := some 31) (v := ?_) (a' := ?_) #[true, true, true, true, false, true, true, true, false, false, false, true, true, true, false, false, false, true, true, true, false, false, false, true, true, true, false, false, false] rfl rfl (by kernel_rfl) (fun _ _ _ h => h) (Or.inl ⟨by rfl, ?_⟩) ?_ ?_
    rotate_left
    · intro w'
      go_simp
      with_reducible rfl
    rotate_left
    · simp only [Act.put, List.setIfInBounds_toArray, List.set_cons_zero, List.set_cons_succ, i64_w, i32_w]
      rfl
    refine pure_ (i := 4) (N := some 32) (v := ?_) (a' := ?_) #[true, true, true, true, true, true, true, true, false, false, false, true, true, true, false, false, false, true, true, true, false, false, false, true, true, true, false, false, false] rfl rfl (by kernel_rfl) (fun _ _ _ h => h) (Or.inl ⟨by rfl, ?_⟩) ?_ ?_
    rotate_left
    · intro w'
      go_simp
      with_reducible rfl
    rotate_left
    · simp only [Act.put, List.setIfInBounds_toArray, List.set_cons_zero, List.set_cons_succ, i64_w, i32_w]
      rfl
    refine one_ (i := 8) (N := some 36) #[true, true, true, true, true, true, true, true, true, false, false, true, true, true, false, false, false, true, true, true, false, false, false, true, true, true, false, false, false] rfl rfl (by kernel_rfl) (by decide) (fun K hK => ?_)
    refine goes_ Tryd.func25 (by kernel_rfl) rfl #[.int .i64 s.id] (by rfl) rfl rfl (by simp only [List.map_toArray, List.map_cons, List.map_nil]; rfl) ?_
    with_reducible refine (D1.out _).mono ?_
    rintro e w3 ⟨rfl, m, rfl⟩
    refine ⟨_, rfl, ?_⟩
    refine hK.out _ _ ⟨(stcells (rl_dN hHeld.2.2.2.2.2 m).out.1).1.2.1, (stcells (rl_dN hHeld.2.2.2.2.2 m).out.1).1.2.2.1, (stcells (rl_dN hHeld.2.2.2.2.2 m).out.1).1.2.2.2.1, (stcells (rl_dN hHeld.2.2.2.2.2 m).out.1).1.2.2.2.2.1, (stcells (rl_dN hHeld.2.2.2.2.2 m).out.1).1.2.2.2.2.2.1, (rl_dN hHeld.2.2.2.2.2 m)⟩ (fun hHeld => ?_)
    clear hK K
    refine norm_ (a' := ?_) ?_ ?_
    rotate_left
    · show Act.put _ (some 36) _ = _
      simp only [Act.put, List.setIfInBounds_toArray, List.set_cons_zero, List.set_cons_succ, i64_w, i32_w]
      rfl
    refine pure_ (i := 9) (N := some 37) (v := ?_) (a' := ?_) #[true, true, true, true, true, true, true, true, true, true, false, true, true, true, false, false, false, true, true, true, false, false, false, true, true, true, false, false, false] rfl rfl (by kernel_rfl) (fun _ _ _ h => h) (Or.inl ⟨by rfl, ?_⟩) ?_ ?_
    rotate_left
    · intro w'
      go_simp
      with_reducible rfl
    rotate_left
    · simp only [Act.put, List.setIfInBounds_toArray, List.set_cons_zero, List.set_cons_succ, i64_w, i32_w]
      rfl
    refine pure_ (i := 10) (N := some 38) (v := ?_) (a' := ?_) #[true, true, true, true, true, true, true, true, true, true, true, true, true, true, false, false, false, true, true, true, false, false, false, true, true, true, false, false, false] rfl rfl (by kernel_rfl) (fun _ _ _ h => h) (Or.inl ⟨by rfl, ?_⟩) ?_ ?_
    rotate_left
    · intro w'
      go_simp
      with_reducible rfl
    rotate_left
    · simp only [Act.put, List.setIfInBounds_toArray, List.set_cons_zero, List.set_cons_succ, i64_w, i32_w]
      rfl
    refine one_ (i := 14) (N := some 42) #[true, true, true, true, true, true, true, true, true, true, true, true, true, true, true, false, false, true, true, true, false, false, false, true, true, true, false, false, false] rfl rfl (by kernel_rfl) (by decide) (fun K hK => ?_)
    refine goes_ Tryd.func25 (by kernel_rfl) rfl #[.int .i64 s.stream] (by rfl) rfl rfl (by simp only [List.map_toArray, List.map_cons, List.map_nil]; rfl) ?_
    with_reducible refine (D2.out _).mono ?_
    rintro e w3 ⟨rfl, m, rfl⟩
    refine ⟨_, rfl, ?_⟩
    refine hK.out _ _ ⟨(stcells (rl_dN hHeld.2.2.2.2.2 m).out.1).1.2.1, (stcells (rl_dN hHeld.2.2.2.2.2 m).out.1).1.2.2.1, (stcells (rl_dN hHeld.2.2.2.2.2 m).out.1).1.2.2.2.1, (stcells (rl_dN hHeld.2.2.2.2.2 m).out.1).1.2.2.2.2.1, (stcells (rl_dN hHeld.2.2.2.2.2 m).out.1).1.2.2.2.2.2.1, (rl_dN hHeld.2.2.2.2.2 m)⟩ (fun hHeld => ?_)
    clear hK K
    refine norm_ (a' := ?_) ?_ ?_
    rotate_left
    · show Act.put _ (some 42) _ = _
      simp only [Act.put, List.setIfInBounds_toArray, List.set_cons_zero, List.set_cons_succ, i64_w, i32_w]
      rfl
    refine pure_ (i := 15) (N := some 43) (v := ?_) (a' := ?_) #[true, true, true, true, true, true, true, true, true, true, true, true, true, true, true, true, false, true, true, true, false, false, false, true, true, true, false, false, false] rfl rfl (by kernel_rfl) (fun _ _ _ h => h) (Or.inl ⟨by rfl, ?_⟩) ?_ ?_
    rotate_left
    · intro w'
      go_simp
      with_reducible rfl
    rotate_left
    · simp only [Act.put, List.setIfInBounds_toArray, List.set_cons_zero, List.set_cons_succ, i64_w, i32_w]
      rfl
    refine pure_ (i := 16) (N := some 44) (v := ?_) (a' := ?_) #[true, true, true, true, true, true, true, true, true, true, true, true, true, true, true, true, true, true, true, true, false, false, false, true, true, true, false, false, false] rfl rfl (by kernel_rfl) (fun _ _ _ h => h) (Or.inl ⟨by rfl, ?_⟩) ?_ ?_
    rotate_left
    · intro w'
      go_simp
      with_reducible rfl
    rotate_left
    · simp only [Act.put, List.setIfInBounds_toArray, List.set_cons_zero, List.set_cons_succ, i64_w, i32_w]
      rfl
    refine one_ (i := 20) (N := some 48) #[true, true, true, true, true, true, true, true, true, true, true, true, true, true, true, true, true, true, true, true, true, false, false, true, true, true, false, false, false] rfl rfl (by kernel_rfl) (by decide) (fun K hK => ?_)
    refine goes_ Tryd.func25 (by kernel_rfl) rfl #[.int .i64 s.cls] (by rfl) rfl rfl (by simp only [List.map_toArray, List.map_cons, List.map_nil]; rfl) ?_
    with_reducible refine (D3.out _).mono ?_
    rintro e w3 ⟨rfl, m, rfl⟩
    refine ⟨_, rfl, ?_⟩
    refine hK.out _ _ ⟨(stcells (rl_dN hHeld.2.2.2.2.2 m).out.1).1.2.1, (stcells (rl_dN hHeld.2.2.2.2.2 m).out.1).1.2.2.1, (stcells (rl_dN hHeld.2.2.2.2.2 m).out.1).1.2.2.2.1, (stcells (rl_dN hHeld.2.2.2.2.2 m).out.1).1.2.2.2.2.1, (stcells (rl_dN hHeld.2.2.2.2.2 m).out.1).1.2.2.2.2.2.1, (rl_dN hHeld.2.2.2.2.2 m)⟩ (fun hHeld => ?_)
    clear hK K
    refine norm_ (a' := ?_) ?_ ?_
    rotate_left
    · show Act.put _ (some 48) _ = _
      simp only [Act.put, List.setIfInBounds_toArray, List.set_cons_zero, List.set_cons_succ, i64_w, i32_w]
      rfl
    refine pure_ (i := 21) (N := some 49) (v := ?_) (a' := ?_) #[true, true, true, true, true, true, true, true, true, true, true, true, true, true, true, true, true, true, true, true, true, true, false, true, true, true, false, false, false] rfl rfl (by kernel_rfl) (fun _ _ _ h => h) (Or.inl ⟨by rfl, ?_⟩) ?_ ?_
    rotate_left
    · intro w'
      go_simp
      with_reducible rfl
    rotate_left
    · simp only [Act.put, List.setIfInBounds_toArray, List.set_cons_zero, List.set_cons_succ, i64_w, i32_w]
      rfl
    refine pure_ (i := 22) (N := some 50) (v := ?_) (a' := ?_) #[true, true, true, true, true, true, true, true, true, true, true, true, true, true, true, true, true, true, true, true, true, true, true, true, true, true, false, false, false] rfl rfl (by kernel_rfl) (fun _ _ _ h => h) (Or.inl ⟨by rfl, ?_⟩) ?_ ?_
    rotate_left
    · intro w'
      go_simp
      with_reducible rfl
    rotate_left
    · simp only [Act.put, List.setIfInBounds_toArray, List.set_cons_zero, List.set_cons_succ, i64_w, i32_w]
      rfl
    refine one_ (i := 26) (N := some 54) #[true, true, true, true, true, true, true, true, true, true, true, true, true, true, true, true, true, true, true, true, true, true, true, true, true, true, true, false, false] rfl rfl (by kernel_rfl) (by decide) (fun K hK => ?_)
    refine goes_ Tryd.func25 (by kernel_rfl) rfl #[.int .i64 s.size] (by rfl) rfl rfl (by simp only [List.map_toArray, List.map_cons, List.map_nil]; rfl) ?_
    with_reducible refine (D4.out _).mono ?_
    rintro e w3 ⟨rfl, m, rfl⟩
    refine ⟨_, rfl, ?_⟩
    refine hK.out _ _ ⟨(stcells (rl_dN hHeld.2.2.2.2.2 m).out.1).1.2.1, (stcells (rl_dN hHeld.2.2.2.2.2 m).out.1).1.2.2.1, (stcells (rl_dN hHeld.2.2.2.2.2 m).out.1).1.2.2.2.1, (stcells (rl_dN hHeld.2.2.2.2.2 m).out.1).1.2.2.2.2.1, (stcells (rl_dN hHeld.2.2.2.2.2 m).out.1).1.2.2.2.2.2.1, (rl_dN hHeld.2.2.2.2.2 m)⟩ (fun hHeld => ?_)
    clear hK K
    refine norm_ (a' := ?_) ?_ ?_
    rotate_left
    · show Act.put _ (some 54) _ = _
      simp only [Act.put, List.setIfInBounds_toArray, List.set_cons_zero, List.set_cons_succ, i64_w, i32_w]
      rfl
    refine pure_ (i := 27) (N := some 55) (v := ?_) (a' := ?_) #[true, true, true, true, true, true, true, true, true, true, true, true, true, true, true, true, true, true, true, true, true, true, true, true, true, true, true, true, false] rfl rfl (by kernel_rfl) (fun _ _ _ h => h) (Or.inl ⟨by rfl, ?_⟩) ?_ ?_
    rotate_left
    · intro w'
      go_simp
      with_reducible rfl
    rotate_left
    · simp only [Act.put, List.setIfInBounds_toArray, List.set_cons_zero, List.set_cons_succ, i64_w, i32_w]
      rfl
    refine pure_ (i := 28) (N := some 4) (v := ?_) (a' := ?_) #[true, true, true, true, true, true, true, true, true, true, true, true, true, true, true, true, true, true, true, true, true, true, true, true, true, true, true, true, true] rfl rfl (by kernel_rfl) (fun _ _ _ h => h) (Or.inl ⟨by rfl, ?_⟩) ?_ ?_
    rotate_left
    · intro w'
      go_simp
      with_reducible rfl
    rotate_left
    · simp only [Act.put, List.setIfInBounds_toArray, List.set_cons_zero, List.set_cons_succ, i64_w, i32_w]
      rfl
    refine done_ (by kernel_rfl) ?_
    go_wp2_with fail
    (try simp only [Exit.then])
    refine H3.out _ _ (rline_tail_a s w g1 T9 HR.out.symm _ rfl _ (by unfold rlineF stV stC; rw [← HK.out]; rfl) _ hHeld.2.2.2.2.2 HRL.out)
  have q1 : (k == 1) = false := beq_eq_false_iff_ne.2 h1
  have HP : Aside0 (lineV s = .tuple #[.string (tx []), .int .i64 1]) := ⟨lineV_none (line_kind (by rw [← HK.out]; exact h1) (by rw [← HK.out]; exact h2) (by rw [← HK.out]; exact h3))⟩
  clear h1 h2 h3
  go_wp2_with fail
  go_ret2
  exact ⟨by rw [HP.out]; rfl, HG.out.2⟩
end Go.Proofs.YtkjjjgplidompaaDoor.B
