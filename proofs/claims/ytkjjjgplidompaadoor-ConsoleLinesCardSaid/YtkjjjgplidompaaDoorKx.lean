/-
  The law of a line of any step and of what is told. Walk.
-/
import Derived.Test.YtkjjjgplidompaaDoorKw
import Derived.Test.YtkjjjgplidompaaDoorKo
namespace Go.Proofs.YtkjjjgplidompaaDoor.B
open Go.RowKit Go.Proofs.YtkjjjgplidompaaDoorW.PrintWords Go.Proofs.YtkjjjgplidompaaDoorW.PrintLast Go.Proofs.YtkjjjgplidompaaDoorW.PrintMore
set_option linter.unusedVariables false
set_option linter.unusedSimpArgs false
theorem lineV_form (s : LStep) : ∃ L c, lineV s = .tuple #[.string (tx L), .int .i64 c] := by
  cases h : lineL s with
  | none => exact ⟨_, _, lineV_none h⟩
  | some l => exact ⟨_, _, lineV_some h⟩
theorem ti_tab {T : LTold} {A : Option Addr} {cO : Nat} {B : Option Addr} {cD : Nat} {g1 : Nat} {w0 w : World} (h : Aside0 (TellIn T A cO B cD g1 w0 w)) (hT : Aside0 (Tab w0)) : Tab w := hT.out.below h.out.bel
set_option maxHeartbeats 4000000 in
set_option maxRecDepth 100000 in
theorem lines_law (k0 a0 p0 q0 u0 v0 : Int) (d : ByteArray) (T : LTold) (A : Option Addr) (cO : Nat) (B : Option Addr) (cD : Nat) (w : World) (hT : Tab w) (ha : I64 a0) (hp : I64 p0) (hq : I64 q0) (hu : I64 u0) (hv : I64 v0) (h9 : ∀ x ∈ nineN T, I64 x) (hf : ∀ j, j < T.no * 7 → I64 (T.f j)) (hh : ∀ j, j < T.nd → I64 (T.h j)) (hO : T.no ≤ cO) (hcO : cO ≤ maxLen) (hD : T.nd ≤ cD) (hcD : cD ≤ maxLen) (hA : IntsAt w A (T.no * 7) T.f) (hB : IntsAt w B T.nd T.h) :
    Calls Tryd.prog 6 #[.agg #[.int .i64 k0, .int .i64 a0, .int .i64 p0, .int .i64 q0, .int .i64 u0, .int .i64 v0, .string d], .agg (toC T A cO B cD)] w fun e w' => e = .returned (.bool true) ∧ Below w.heap.size w w' := by
  have HTw := Aside0.mk hT
  obtain ⟨W1, hW1⟩ : ∃ W, W = w.alloc (.cells #[.int .i64 k0, .int .i64 a0, .int .i64 p0, .int .i64 q0, .int .i64 u0, .int .i64 v0, .string d] 26) := ⟨_, rfl⟩
  obtain ⟨W2, hW2⟩ : ∃ W, W = W1.alloc (.cells (toC T A cO B cD) 43) := ⟨_, rfl⟩
  have B1 : Below w.heap.size w W1 := by rw [hW1]; exact balloc w _
  have B2 : Below w.heap.size w W2 := by rw [hW2]; exact B1.alloc B1.size _
  have k1 : W1.heap[w.heap.size]? = some (.cells #[.int .i64 k0, .int .i64 a0, .int .i64 p0, .int .i64 q0, .int .i64 u0, .int .i64 v0, .string d] 26 (0, 0)) := by rw [hW1]; exact blk_new w _
  have k2 : W2.heap[w.heap.size]? = some (.cells #[.int .i64 k0, .int .i64 a0, .int .i64 p0, .int .i64 q0, .int .i64 u0, .int .i64 v0, .string d] 26 (0, 0)) := by rw [hW2]; exact (Below.heap_alloc W1 _ _ (blk_ltI k1)).trans k1
  have k3 : W2.heap[W1.heap.size]? = some (.cells (toC T A cO B cD) 43 (0, 0)) := by rw [hW2]; exact blk_new W1 _
  have HTI : Aside0 (TellIn T A cO B cD W1.heap.size w W2) := ⟨k3, B2, hA.below B2, hB.below B2⟩
  have hs1 : W1.heap.size = w.heap.size + 1 := by rw [hW1]; show (w.heap.push _).size = _; exact Array.size_push _
  rw [hs1] at HTI
  clear k1 k3 B1 B2 hs1
  go_enter Tryd.func6, Tryd.ntmps6
  unfold toC at hW2 ⊢
  refine wp_seq_k (fun K1 h1 => ?_)
  have H1 := Aside0.mk h1
  clear h1
  go_wp2_with fail
  (try simp only [Exit.then])
  refine H1.out _ _ ?_
  clear H1
  (try rw [← hW1])
  (try rw [← hW2])
  obtain ⟨⟨s0, s1, s2, s3, s4, s5, s6⟩, -⟩ := stcells k2
  obtain ⟨c0, c1, c2, c3, c4, c5, c6, c7, c8, c9, c10⟩ := toCells HTI.out.blk
  have HK := Aside0.mk k2
  clear k2 hW1 hW2 hA hB
  by_cases hbig : 40000 < d.size ∨ 300 < T.no ∨ 300 < T.nd
  · have HQ : Aside0 (decide (40000 < (d.size : Int)) = true ∨ (decide (40000 < (d.size : Int)) = false ∧ decide (300 < (T.no : Int)) = true) ∨ (decide (40000 < (d.size : Int)) = false ∧ decide (300 < (T.no : Int)) = false ∧ decide (300 < (T.nd : Int)) = true)) := ⟨by
      by_cases h : 40000 < d.size
      · exact .inl (decide_eq_true (by omega))
      · by_cases h2 : 300 < T.no
        · exact .inr (.inl ⟨decide_eq_false (by omega), decide_eq_true (by omega)⟩)
        · exact .inr (.inr ⟨decide_eq_false (by omega), decide_eq_false (by omega), decide_eq_true (by omega)⟩)⟩
    clear hbig
    rcases HQ.out with z1 | ⟨z1, z2⟩ | ⟨z1, z2, z3⟩
    all_goals
      go_wp2_with fail
      refine (wakes_true _ (ti_tab HTI HTw)).mono ?_
      rintro e w2 ⟨rfl, hb2⟩
      have HB2 := ti_b HTI hb2
      clear hb2
      go_wp2_with fail
      go_ret
      exact ⟨rfl, HB2.out.bel⟩
  have z1 : decide (40000 < (d.size : Int)) = false := decide_eq_false (by omega)
  have z2 : decide (300 < (T.no : Int)) = false := decide_eq_false (by omega)
  have z3 : decide (300 < (T.nd : Int)) = false := decide_eq_false (by omega)
  have hdl := len_of d
  have hI : StI ⟨k0, a0, p0, q0, u0, v0, d.data.toList⟩ := ⟨ha, hp, hq, hu, hv, by dsimp only; omega⟩
  have hTI : ToI T := ⟨h9, hf, hh, by omega, by omega⟩
  have HL := Aside0.mk (fun w hT => line_any ⟨k0, a0, p0, q0, u0, v0, d.data.toList⟩ w hT hI)
  have HR := Aside0.mk (fun w => rline_any ⟨k0, a0, p0, q0, u0, v0, d.data.toList⟩ w hI)
  have hsv : stV ⟨k0, a0, p0, q0, u0, v0, d.data.toList⟩ = .agg #[.int .i64 k0, .int .i64 a0, .int .i64 p0, .int .i64 q0, .int .i64 u0, .int .i64 v0, .string d] := by unfold stV stC; dsimp only
  unfold LinePost at HL HR
  obtain ⟨L, c, hlv⟩ := lineV_form ⟨k0, a0, p0, q0, u0, v0, d.data.toList⟩
  rw [hsv, hlv] at HL HR
  have CT := Aside0.mk (fun w' (h : Aside0 (TellIn T A cO B cD (w.heap.size + 1) w w')) => ctell_any T A cO B cD w' (ti_tab h HTw) hTI hO hcO hD hcD h.out.outs h.out.drops)
  have CR := Aside0.mk (fun w' (h : Aside0 (TellIn T A cO B cD (w.heap.size + 1) w w')) => rtell_any T A cO B cD w' hTI hO hcO hD hcD h.out.outs h.out.drops)
  obtain ⟨Z, hZ⟩ : ∃ Z, Z = drS T T.nd := ⟨_, rfl⟩
  unfold TellPost at CT CR
  rw [← hZ] at CT CR
  clear hbig hI hTI hdl ha hp hq hu hv h9 hf hh hsv hlv hZ
  go_wp2_with fail
  refine (HL.out _ (ti_tab HTI HTw)).mono ?_
  rintro e w3 ⟨rfl, hb3⟩
  have HT3 := ti_b HTI hb3
  have K3 := (hb3.block _ (blk_ltI HK.out)).trans HK.out
  clear s0 s1 s2 s3 s4 s5 s6 c0 c1 c2 c3 c4 c5 c6 c7 c8 c9 c10 hb3 HTI HK HL z1 z2 z3
  obtain ⟨⟨s0, s1, s2, s3, s4, s5, s6⟩, -⟩ := stcells K3
  clear K3
  go_wp2_with fail
  refine (HR.out _).mono ?_
  rintro e w4 ⟨rfl, hb4⟩
  have HT4 := ti_b HT3 hb4
  clear s0 s1 s2 s3 s4 s5 s6 HT3 hb4 HR
  obtain ⟨c0, c1, c2, c3, c4, c5, c6, c7, c8, c9, c10⟩ := toCells HT4.out.blk
  go_wp2_with fail
  refine start_ (n := 19) (S := fun w' => w'.cell? ⟨w.heap.size + 1, 0, none⟩ = some (.int .i64 T.a0) ∧ w'.cell? ⟨w.heap.size + 1, 1, none⟩ = some (.int .i64 T.a1) ∧ w'.cell? ⟨w.heap.size + 1, 2, none⟩ = some (.int .i64 T.a2) ∧ w'.cell? ⟨w.heap.size + 1, 3, none⟩ = some (.int .i64 T.a3) ∧ w'.cell? ⟨w.heap.size + 1, 4, none⟩ = some (.int .i64 T.a4) ∧ w'.cell? ⟨w.heap.size + 1, 5, none⟩ = some (.int .i64 T.a5) ∧ w'.cell? ⟨w.heap.size + 1, 6, none⟩ = some (.int .i64 T.a6) ∧ w'.cell? ⟨w.heap.size + 1, 7, none⟩ = some (.int .i64 T.a7) ∧ w'.cell? ⟨w.heap.size + 1, 8, none⟩ = some (.int .i64 T.a8) ∧ w'.cell? ⟨w.heap.size + 1, 9, none⟩ = some (.slice A T.no cO) ∧ w'.cell? ⟨w.heap.size + 1, 10, none⟩ = some (.slice B T.nd cD) ∧ Aside0 (TellIn T A cO B cD (w.heap.size + 1) w w')) (ds := []) #[false, false, false, false, false, false, false, false, false, false, false, false, false, false, false, false, false, false, false] (by kernel_rfl) rfl rfl ⟨c0, c1, c2, c3, c4, c5, c6, c7, c8, c9, c10, (ti_b HT4 (d1 _))⟩ (fun hHeld => ?_)
  refine pure_ (i := 0) (N := some 36) (v := ?_) (a' := ?_) #[true, false, false, false, false, false, false, false, false, false, false, false, false, false, false, false, false, false, false] rfl rfl (by kernel_rfl) (fun _ _ _ h => h) (Or.inl ⟨by rfl, ?_⟩) ?_ ?_
  rotate_left
  · intro w'
    go_simp
    with_reducible rfl
  rotate_left
  · simp only [Act.put, List.setIfInBounds_toArray, List.set_cons_zero, List.set_cons_succ, i64_w, i32_w]
    rfl
  refine pure_ (i := 1) (N := some 37) (v := ?_) (a' := ?_) #[true, true, false, false, false, false, false, false, false, false, false, false, false, false, false, false, false, false, false] rfl rfl (by kernel_rfl) (fun _ _ _ h => h) (Or.inl ⟨by rfl, ?_⟩) ?_ ?_
  rotate_left
  · intro w'
    go_simp
    with_reducible rfl
  rotate_left
  · simp only [Act.put, List.setIfInBounds_toArray, List.set_cons_zero, List.set_cons_succ, i64_w, i32_w]
    rfl
  refine pure_ (i := 2) (N := some 38) (v := ?_) (a' := ?_) #[true, true, true, false, false, false, false, false, false, false, false, false, false, false, false, false, false, false, false] rfl rfl (by kernel_rfl) (fun _ _ _ h => h) (Or.inl ⟨by rfl, ?_⟩) ?_ ?_
  rotate_left
  · intro w'
    go_simp
    with_reducible rfl
  rotate_left
  · simp only [Act.put, List.setIfInBounds_toArray, List.set_cons_zero, List.set_cons_succ, i64_w, i32_w]
    rfl
  refine pure_ (i := 3) (N := some 39) (v := ?_) (a' := ?_) #[true, true, true, true, false, false, false, false, false, false, false, false, false, false, false, false, false, false, false] rfl rfl (by kernel_rfl) (fun _ _ _ h => h) (Or.inl ⟨by rfl, ?_⟩) ?_ ?_
  rotate_left
  · intro w'
    go_simp
    with_reducible rfl
  rotate_left
  · simp only [Act.put, List.setIfInBounds_toArray, List.set_cons_zero, List.set_cons_succ, i64_w, i32_w]
    rfl
  refine pure_ (i := 4) (N := some 40) (v := ?_) (a' := ?_) #[true, true, true, true, true, false, false, false, false, false, false, false, false, false, false, false, false, false, false] rfl rfl (by kernel_rfl) (fun _ _ _ h => h) (Or.inl ⟨by rfl, ?_⟩) ?_ ?_
  rotate_left
  · intro w'
    go_simp
    with_reducible rfl
  rotate_left
  · simp only [Act.put, List.setIfInBounds_toArray, List.set_cons_zero, List.set_cons_succ, i64_w, i32_w]
    rfl
  refine pure_ (i := 5) (N := some 41) (v := ?_) (a' := ?_) #[true, true, true, true, true, true, false, false, false, false, false, false, false, false, false, false, false, false, false] rfl rfl (by kernel_rfl) (fun _ _ _ h => h) (Or.inl ⟨by rfl, ?_⟩) ?_ ?_
  rotate_left
  · intro w'
    go_simp
    with_reducible rfl
  rotate_left
  · simp only [Act.put, List.setIfInBounds_toArray, List.set_cons_zero, List.set_cons_succ, i64_w, i32_w]
    rfl
  refine pure_ (i := 6) (N := some 42) (v := ?_) (a' := ?_) #[true, true, true, true, true, true, true, false, false, false, false, false, false, false, false, false, false, false, false] rfl rfl (by kernel_rfl) (fun _ _ _ h => h) (Or.inl ⟨by rfl, ?_⟩) ?_ ?_
  rotate_left
  · intro w'
    go_simp
    with_reducible rfl
  rotate_left
  · simp only [Act.put, List.setIfInBounds_toArray, List.set_cons_zero, List.set_cons_succ, i64_w, i32_w]
    rfl
  refine pure_ (i := 7) (N := some 43) (v := ?_) (a' := ?_) #[true, true, true, true, true, true, true, true, false, false, false, false, false, false, false, false, false, false, false] rfl rfl (by kernel_rfl) (fun _ _ _ h => h) (Or.inl ⟨by rfl, ?_⟩) ?_ ?_
  rotate_left
  · intro w'
    go_simp
    with_reducible rfl
  rotate_left
  · simp only [Act.put, List.setIfInBounds_toArray, List.set_cons_zero, List.set_cons_succ, i64_w, i32_w]
    rfl
  refine pure_ (i := 8) (N := some 44) (v := ?_) (a' := ?_) #[true, true, true, true, true, true, true, true, true, false, false, false, false, false, false, false, false, false, false] rfl rfl (by kernel_rfl) (fun _ _ _ h => h) (Or.inl ⟨by rfl, ?_⟩) ?_ ?_
  rotate_left
  · intro w'
    go_simp
    with_reducible rfl
  rotate_left
  · simp only [Act.put, List.setIfInBounds_toArray, List.set_cons_zero, List.set_cons_succ, i64_w, i32_w]
    rfl
  refine take_ (i := 9) (N := some 45) (v := ?_) (a' := ?_) #[true, true, true, true, true, true, true, true, true, true, false, false, false, false, false, false, false, false, false] rfl rfl (by kernel_rfl) (fun _ _ _ h => h) (Or.inl ⟨by rfl, ?_⟩) hHeld ?_ ?_
  rotate_left
  · rintro w' ⟨s0, s1, s2, s3, s4, s5, s6, s7, s8, s9, s10, s11⟩
    go_simp
    with_reducible rfl
  rotate_left
  · simp only [Act.put, List.setIfInBounds_toArray, List.set_cons_zero, List.set_cons_succ, i64_w, i32_w]
    rfl
  refine take_ (i := 11) (N := some 47) (v := ?_) (a' := ?_) #[true, true, true, true, true, true, true, true, true, true, false, true, false, false, false, false, false, false, false] rfl rfl (by kernel_rfl) (fun _ _ _ h => h) (Or.inl ⟨by rfl, ?_⟩) hHeld ?_ ?_
  rotate_left
  · rintro w' ⟨s0, s1, s2, s3, s4, s5, s6, s7, s8, s9, s10, s11⟩
    go_simp
    with_reducible rfl
  rotate_left
  · simp only [Act.put, List.setIfInBounds_toArray, List.set_cons_zero, List.set_cons_succ, i64_w, i32_w]
    rfl
  refine one_ (i := 10) (N := some 46) #[true, true, true, true, true, true, true, true, true, true, true, true, false, false, false, false, false, false, false] rfl rfl (by kernel_rfl) (by decide) (fun K hK => ?_)
  refine goes_ Tryd.func13 (by kernel_rfl) rfl #[.agg (toC T A cO B cD)] (by rfl) rfl rfl (by simp only [List.map_toArray, List.map_cons, List.map_nil]; rfl) ?_
  with_reducible refine (CT.out _ hHeld.2.2.2.2.2.2.2.2.2.2.2).mono ?_
  rintro e w5 ⟨rfl, hb⟩
  refine ⟨_, rfl, ?_⟩
  refine hK.out _ _ ⟨(cell_b hHeld.1 hb), (cell_b hHeld.2.1 hb), (cell_b hHeld.2.2.1 hb), (cell_b hHeld.2.2.2.1 hb), (cell_b hHeld.2.2.2.2.1 hb), (cell_b hHeld.2.2.2.2.2.1 hb), (cell_b hHeld.2.2.2.2.2.2.1 hb), (cell_b hHeld.2.2.2.2.2.2.2.1 hb), (cell_b hHeld.2.2.2.2.2.2.2.2.1 hb), (cell_b hHeld.2.2.2.2.2.2.2.2.2.1 hb), (cell_b hHeld.2.2.2.2.2.2.2.2.2.2.1 hb), (ti_b hHeld.2.2.2.2.2.2.2.2.2.2.2 hb)⟩ (fun hHeld => ?_)
  clear hK K
  refine norm_ (a' := ?_) ?_ ?_
  rotate_left
  · show Act.put _ (some 46) _ = _
    simp only [Act.put, List.setIfInBounds_toArray, List.set_cons_zero, List.set_cons_succ, i64_w, i32_w]
    rfl
  refine one_ (i := 12) (N := some 48) #[true, true, true, true, true, true, true, true, true, true, true, true, true, false, false, false, false, false, false] rfl rfl (by kernel_rfl) (by decide) (fun K hK => ?_)
  refine goes_ Tryd.func14 (by kernel_rfl) rfl #[.agg (toC T A cO B cD)] (by rfl) rfl rfl (by simp only [List.map_toArray, List.map_cons, List.map_nil]; rfl) ?_
  with_reducible refine (CR.out _ hHeld.2.2.2.2.2.2.2.2.2.2.2).mono ?_
  rintro e w5 ⟨rfl, hb⟩
  refine ⟨_, rfl, ?_⟩
  refine hK.out _ _ ⟨(cell_b hHeld.1 hb), (cell_b hHeld.2.1 hb), (cell_b hHeld.2.2.1 hb), (cell_b hHeld.2.2.2.1 hb), (cell_b hHeld.2.2.2.2.1 hb), (cell_b hHeld.2.2.2.2.2.1 hb), (cell_b hHeld.2.2.2.2.2.2.1 hb), (cell_b hHeld.2.2.2.2.2.2.2.1 hb), (cell_b hHeld.2.2.2.2.2.2.2.2.1 hb), (cell_b hHeld.2.2.2.2.2.2.2.2.2.1 hb), (cell_b hHeld.2.2.2.2.2.2.2.2.2.2.1 hb), (ti_b hHeld.2.2.2.2.2.2.2.2.2.2.2 hb)⟩ (fun hHeld => ?_)
  clear hK K
  refine norm_ (a' := ?_) ?_ ?_
  rotate_left
  · show Act.put _ (some 48) _ = _
    simp only [Act.put, List.setIfInBounds_toArray, List.set_cons_zero, List.set_cons_succ, i64_w, i32_w]
    rfl
  refine pure_ (i := 13) (N := some 49) (v := ?_) (a' := ?_) #[true, true, true, true, true, true, true, true, true, true, true, true, true, true, false, false, false, false, false] rfl rfl (by kernel_rfl) (fun _ _ _ h => h) (Or.inl ⟨by rfl, ?_⟩) ?_ ?_
  rotate_left
  · intro w'
    go_simp
    with_reducible rfl
  rotate_left
  · simp only [Act.put, List.setIfInBounds_toArray, List.set_cons_zero, List.set_cons_succ, i64_w, i32_w]
    rfl
  refine pure_ (i := 14) (N := some 50) (v := ?_) (a' := ?_) #[true, true, true, true, true, true, true, true, true, true, true, true, true, true, true, false, false, false, false] rfl rfl (by kernel_rfl) (fun _ _ _ h => h) (Or.inl ⟨by rfl, ?_⟩) ?_ ?_
  rotate_left
  · intro w'
    go_simp
    with_reducible rfl
  rotate_left
  · simp only [Act.put, List.setIfInBounds_toArray, List.set_cons_zero, List.set_cons_succ, i64_w, i32_w]
    rfl
  refine pure_ (i := 15) (N := some 51) (v := ?_) (a' := ?_) #[true, true, true, true, true, true, true, true, true, true, true, true, true, true, true, true, false, false, false] rfl rfl (by kernel_rfl) (fun _ _ _ h => h) (Or.inl ⟨by rfl, ?_⟩) ?_ ?_
  rotate_left
  · intro w'
    go_simp
    with_reducible rfl
  rotate_left
  · simp only [Act.put, List.setIfInBounds_toArray, List.set_cons_zero, List.set_cons_succ, i64_w, i32_w]
    rfl
  refine one_ (i := 16) (N := some 52) #[true, true, true, true, true, true, true, true, true, true, true, true, true, true, true, true, true, false, false] rfl rfl (by kernel_rfl) (by decide) (fun K hK => ?_)
  refine goes_ Tryd.func7 (by kernel_rfl) rfl #[] (by rfl) rfl rfl (by simp only [List.map_toArray, List.map_nil]) ?_
  with_reducible refine (wakes_true _ (ti_tab hHeld.2.2.2.2.2.2.2.2.2.2.2 HTw)).mono ?_
  rintro e w5 ⟨rfl, hb⟩
  refine ⟨_, rfl, ?_⟩
  refine hK.out _ _ ⟨(cell_b hHeld.1 hb), (cell_b hHeld.2.1 hb), (cell_b hHeld.2.2.1 hb), (cell_b hHeld.2.2.2.1 hb), (cell_b hHeld.2.2.2.2.1 hb), (cell_b hHeld.2.2.2.2.2.1 hb), (cell_b hHeld.2.2.2.2.2.2.1 hb), (cell_b hHeld.2.2.2.2.2.2.2.1 hb), (cell_b hHeld.2.2.2.2.2.2.2.2.1 hb), (cell_b hHeld.2.2.2.2.2.2.2.2.2.1 hb), (cell_b hHeld.2.2.2.2.2.2.2.2.2.2.1 hb), (ti_b hHeld.2.2.2.2.2.2.2.2.2.2.2 hb)⟩ (fun hHeld => ?_)
  clear hK K
  refine norm_ (a' := ?_) ?_ ?_
  rotate_left
  · show Act.put _ (some 52) _ = _
    simp only [Act.put, List.setIfInBounds_toArray, List.set_cons_zero, List.set_cons_succ, i64_w, i32_w]
    rfl
  refine pure_ (i := 17) (N := some 53) (v := ?_) (a' := ?_) #[true, true, true, true, true, true, true, true, true, true, true, true, true, true, true, true, true, true, false] rfl rfl (by kernel_rfl) (fun _ _ _ h => h) (Or.inl ⟨by rfl, ?_⟩) ?_ ?_
  rotate_left
  · intro w'
    go_simp
    with_reducible rfl
  rotate_left
  · simp only [Act.put, List.setIfInBounds_toArray, List.set_cons_zero, List.set_cons_succ, i64_w, i32_w]
    rfl
  refine pure_ (i := 18) (N := some 4) (v := ?_) (a' := ?_) #[true, true, true, true, true, true, true, true, true, true, true, true, true, true, true, true, true, true, true] rfl rfl (by kernel_rfl) (fun _ _ _ h => h) (Or.inl ⟨by rfl, ?_⟩) ?_ ?_
  rotate_left
  · intro w'
    go_simp
    with_reducible rfl
  rotate_left
  · simp only [Act.put, List.setIfInBounds_toArray, List.set_cons_zero, List.set_cons_succ, i64_w, i32_w]
    rfl
  refine done_ (by kernel_rfl) ?_
  go_wp2_with fail
  go_ret
  exact ⟨rfl, hHeld.2.2.2.2.2.2.2.2.2.2.2.out.bel⟩
end Go.Proofs.YtkjjjgplidompaaDoor.B
