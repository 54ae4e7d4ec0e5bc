/-
  Bytes as digits: the reference's way. Walk.
-/
import Derived.Test.YtkjjjgplidompaaDoorKj
namespace Go.Proofs.YtkjjjgplidompaaDoor.B
open Go.RowKit Go.Proofs.YtkjjjgplidompaaDoorW.PrintWords Go.Proofs.YtkjjjgplidompaaDoorW.PrintLast Go.Proofs.YtkjjjgplidompaaDoorW.PrintMore
set_option linter.unusedVariables false
set_option linter.unusedSimpArgs false
theorem hx_drew {w0 w : World} {v : Value} {n : Nat} {xs : List Value} (h : Aside0 (RowV w w0.heap.size 5 1 v n xs ∧ Below w0.heap.size w0 w)) : Aside0 (RowV w.drew w0.heap.size 5 1 v n xs ∧ Below w0.heap.size w0 w.drew) := ⟨h.out.1.keep (fun _ _ _ _ => rfl), h.out.2.drew⟩
theorem hx_alloc {w0 w : World} {v : Value} {n : Nat} {xs : List Value} (h : Aside0 (RowV w w0.heap.size 5 1 v n xs ∧ Below w0.heap.size w0 w)) (o : Obj) : Aside0 (RowV (w.alloc o) w0.heap.size 5 1 v n xs ∧ Below w0.heap.size w0 (w.alloc o)) := ⟨h.out.1.alloc o, h.out.2.alloc h.out.2.size o⟩
theorem byV_two (a : List UInt8) (x y : UInt8) : byV (a ++ [x, y]) = byV a ++ [.int .u8 (x.toNat : Int), .int .u8 (y.toNat : Int)] := by simp [byV]
theorem hexP_take_len (s : ByteArray) (i : Nat) (h : i ≤ s.size) : (hexP (s.data.toList.take i)).length = 2 * i := by
  rw [hexP_length, List.length_take, len_of]
  omega
theorem hexs_ix8 (k : Nat) (hk : k < 16) (w : World) : (Instr.index 9 (.string { data := #[48, 49, 50, 51, 52, 53, 54, 55, 56, 57, 97, 98, 99, 100, 101, 102] }) (.int .u8 (k : Int))).run Tryd.prog w = .ok (.int .u8 ((hexDig k).toNat : Int)) w := by
  have h := run_index_string (P := Tryd.prog) (w := w) 9 (tx hexs) .u8 (k : Int) Tryd.underlying9
  have hs : (tx hexs).size = 16 := rfl
  rw [dif_pos ⟨by omega, by rw [hs]; omega⟩] at h
  have e : ((tx hexs)[(k : Int).toNat]'(by rw [hs]; omega)) = hexDig k := hexs_get k hk _
  rw [e] at h
  exact h
def RHRel (s : ByteArray) (w : World) (v3 v4 : Value) (wr : World) : Prop := ∃ i : Nat, v4 = .int .i64 i ∧ i ≤ s.size ∧ Aside0 (RowV wr w.heap.size 5 1 v3 (2 * i) (byV (hexP (s.data.toList.take i))) ∧ Below w.heap.size w wr)
set_option maxHeartbeats 4000000 in
set_option maxRecDepth 100000 in
theorem rhex_any (s : ByteArray) (w : World) (hs : s.size ≤ 1000000) : Calls Tryd.prog 26 #[.string s] w fun e w' => e = .returned (.string (tx (hexL s.data.toList))) ∧ Below w.heap.size w w' := by
  have hl := len_of s
  go_enter Tryd.func26, Tryd.ntmps26
  by_cases h1 : s.size = 0
  · have q1 : s.toList.isEmpty = true := by rw [str_emptyK]; exact decide_eq_true h1
    have HN := Aside0.mk (show hexL s.data.toList = [45] by unfold hexL; rw [if_pos (List.eq_nil_of_length_eq_zero (by omega))])
    clear h1
    go_wp2_with fail
    go_ret
    exact ⟨by rw [HN.out]; rfl, Below.refl _ _⟩
  have q1 : s.toList.isEmpty = false := by rw [str_emptyK]; exact decide_eq_false h1
  have HN := Aside0.mk (show hexL s.data.toList = hexP s.data.toList by unfold hexL; rw [if_neg (fun h => by rw [h] at hl; simp at hl; omega)])
  have hpos : 0 < s.size := by omega
  clear h1
  go_wp2_with fail
  go_loopw [3, 4] (fun v3 v4 wr => RHRel s w v3 v4 wr) (fun _ v _ => s.size - (intOf v).toNat)
  case atStart => exact ⟨0, rfl, by omega, ⟨by simpa [byV, hexP] using RowV.nil w w.heap.size 5 1, Below.refl _ _⟩⟩
  case round =>
    obtain ⟨i, rfl, hi, HZ⟩ := hrel
    by_cases hlt : i < s.size
    · have p1 : decide ((i : Int) < (s.size : Int)) = true := decide_eq_true (by omega)
      have x1 := index_byte s i hlt
      have HT := Aside0.mk (hexP_take s i hlt)
      obtain ⟨c, hc⟩ : ∃ c, c = s[i]'hlt := ⟨_, rfl⟩
      rw [← hc] at x1 HT
      have hc8 := c.toNat_lt
      obtain ⟨hi4, hhi⟩ : ∃ h, h = c.toNat / 16 := ⟨_, rfl⟩
      obtain ⟨lo4, hlo⟩ : ∃ l, l = c.toNat % 16 := ⟨_, rfl⟩
      rw [← hhi, ← hlo] at HT
      have hhn : hi4 < 16 := by omega
      have hln : lo4 < 16 := by omega
      have y1 := hexs_ix8 hi4 hhn
      have y2 := hexs_ix8 lo4 hln
      obtain ⟨D1, hD1⟩ : ∃ D, D = hexDig hi4 := ⟨_, rfl⟩
      obtain ⟨D2, hD2⟩ : ∃ D, D = hexDig lo4 := ⟨_, rfl⟩
      rw [← hD1] at y1 HT
      rw [← hD2] at y2 HT
      have a1 := and_15 c.toNat hc8
      rw [← hlo] at a1
      have b1 : ((c.toNat : Nat) : Int) / 16 = (hi4 : Int) := by omega
      have w5 : IntKind.i64.wrap ((i : Int) + 1) = (i : Int) + 1 := wrap_small _ (by omega) (by omega)
      clear hc hlo hhi hD1 hD2
      go_wp2_with fail
      refine start_ (n := 14) (S := fun w' => Aside0 (RowV w' w.heap.size 5 1 u3 (2 * i) (byV (hexP (s.data.toList.take i))) ∧ Below w.heap.size w w')) (ds := [12]) #[false, false, false, false, false, false, false, false, false, false, false, false, false, false] (by kernel_rfl) rfl rfl ((hx_drew HZ)) (fun hHeld => ?_)
      refine pure_ (i := 0) (N := some 13) (v := ?_) (a' := ?_) #[true, false, false, false, false, false, false, false, false, false, false, false, false, false] rfl rfl (by kernel_rfl) (fun _ _ _ h => h) (Or.inl ⟨by rfl, ?_⟩) ?_ ?_
      rotate_left
      · intro w'
        go_simp
        with_reducible rfl
      rotate_left
      · simp only [Act.put, List.setIfInBounds_toArray, List.set_cons_zero, List.set_cons_succ, i64_w, i32_w]
        rfl
      refine pure_ (i := 1) (N := some 14) (v := ?_) (a' := ?_) #[true, true, false, false, false, false, false, false, false, false, false, false, false, false] rfl rfl (by kernel_rfl) (fun _ _ _ h => h) (Or.inl ⟨by rfl, ?_⟩) ?_ ?_
      rotate_left
      · intro w'
        go_simp
        with_reducible rfl
      rotate_left
      · simp only [Act.put, List.setIfInBounds_toArray, List.set_cons_zero, List.set_cons_succ, i64_w, i32_w]
        rfl
      refine pure_ (i := 2) (N := some 15) (v := ?_) (a' := ?_) #[true, true, true, false, false, false, false, false, false, false, false, false, false, false] rfl rfl (by kernel_rfl) (fun _ _ _ h => h) (Or.inl ⟨by rfl, ?_⟩) ?_ ?_
      rotate_left
      · intro w'
        go_simp
        with_reducible rfl
      rotate_left
      · simp only [Act.put, List.setIfInBounds_toArray, List.set_cons_zero, List.set_cons_succ, i64_w, i32_w]
        rfl
      refine pure_ (i := 6) (N := some 19) (v := ?_) (a' := ?_) #[true, true, true, false, false, false, true, false, false, false, false, false, false, false] rfl rfl (by kernel_rfl) (fun _ _ _ h => h) (Or.inl ⟨by rfl, ?_⟩) ?_ ?_
      rotate_left
      · intro w'
        go_simp
        with_reducible rfl
      rotate_left
      · simp only [Act.put, List.setIfInBounds_toArray, List.set_cons_zero, List.set_cons_succ, i64_w, i32_w]
        rfl
      refine pure_ (i := 7) (N := some 20) (v := ?_) (a' := ?_) #[true, true, true, false, false, false, true, true, false, false, false, false, false, false] rfl rfl (by kernel_rfl) (fun _ _ _ h => h) (Or.inl ⟨by rfl, ?_⟩) ?_ ?_
      rotate_left
      · intro w'
        go_simp
        with_reducible rfl
      rotate_left
      · simp only [Act.put, List.setIfInBounds_toArray, List.set_cons_zero, List.set_cons_succ, i64_w, i32_w]
        rfl
      refine take_ (i := 3) (N := some 16) (v := ?_) (a' := ?_) #[true, true, true, true, false, false, true, true, false, false, false, false, false, false] rfl rfl (by kernel_rfl) (fun _ _ _ h => h) (Or.inl ⟨by rfl, ?_⟩) hHeld ?_ ?_
      rotate_left
      · intro w' s0
        go_simp
        with_reducible rfl
      rotate_left
      · simp only [Act.put, List.setIfInBounds_toArray, List.set_cons_zero, List.set_cons_succ, i64_w, i32_w]
        rfl
      refine pure_ (i := 4) (N := some 17) (v := ?_) (a' := ?_) #[true, true, true, true, true, false, true, true, false, false, false, false, false, false] rfl rfl (by kernel_rfl) (fun _ _ _ h => h) (Or.inl ⟨by rfl, ?_⟩) ?_ ?_
      rotate_left
      · intro w'
        go_simp
        with_reducible rfl
      rotate_left
      · simp only [Act.put, List.setIfInBounds_toArray, List.set_cons_zero, List.set_cons_succ, i64_w, i32_w]
        rfl
      refine take_ (i := 5) (N := some 18) (v := ?_) (a' := ?_) #[true, true, true, true, true, true, true, true, false, false, false, false, false, false] rfl rfl (by kernel_rfl) (fun _ _ _ h => h) (Or.inl ⟨by rfl, ?_⟩) hHeld ?_ ?_
      rotate_left
      · intro w' s0
        go_simp
        with_reducible rfl
      rotate_left
      · simp only [Act.put, List.setIfInBounds_toArray, List.set_cons_zero, List.set_cons_succ, i64_w, i32_w]
        rfl
      refine take_ (i := 8) (N := some 21) (v := ?_) (a' := ?_) #[true, true, true, true, true, true, true, true, true, false, false, false, false, false] rfl rfl (by kernel_rfl) (fun _ _ _ h => h) (Or.inl ⟨by rfl, ?_⟩) hHeld ?_ ?_
      rotate_left
      · intro w' s0
        go_simp
        with_reducible rfl
      rotate_left
      · simp only [Act.put, List.setIfInBounds_toArray, List.set_cons_zero, List.set_cons_succ, i64_w, i32_w]
        rfl
      refine pure_ (i := 9) (N := some 22) (v := ?_) (a' := ?_) #[true, true, true, true, true, true, true, true, true, true, false, false, false, false] rfl rfl (by kernel_rfl) (fun _ _ _ h => h) (Or.inl ⟨by rfl, ?_⟩) ?_ ?_
      rotate_left
      · intro w'
        go_simp
        with_reducible rfl
      rotate_left
      · simp only [Act.put, List.setIfInBounds_toArray, List.set_cons_zero, List.set_cons_succ, i64_w, i32_w]
        rfl
      refine take_ (i := 10) (N := some 23) (v := ?_) (a' := ?_) #[true, true, true, true, true, true, true, true, true, true, true, false, false, false] rfl rfl (by kernel_rfl) (fun _ _ _ h => h) (Or.inl ⟨by rfl, ?_⟩) hHeld ?_ ?_
      rotate_left
      · intro w' s0
        go_simp
        with_reducible rfl
      rotate_left
      · simp only [Act.put, List.setIfInBounds_toArray, List.set_cons_zero, List.set_cons_succ, i64_w, i32_w]
        rfl
      refine one_ (i := 11) (N := some 24) #[true, true, true, true, true, true, true, true, true, true, true, true, false, false] rfl rfl (by kernel_rfl) (by decide) (fun K hK => ?_)
      refine value_ (w1 := ?_) (v := ?_) (by rfl) rfl ?_ ?_
      rotate_left 2
      · go_simp
        constructor
        · rfl
        · rfl
      refine hK.out _ _ ((hx_alloc (hx_drew HZ) _)) (fun hHeld => ?_)
      clear hK K
      refine norm_ (a' := ?_) ?_ ?_
      rotate_left
      · show Act.put _ (some 24) _ = _
        simp only [Act.put, List.setIfInBounds_toArray, List.set_cons_zero, List.set_cons_succ, i64_w, i32_w]
        rfl
      refine last_ (i := 12) (N := some 25) #[true, true, true, true, true, true, true, true, true, true, true, true, true, false] rfl rfl (by kernel_rfl) (by decide) (fun K hK => ?_)
      have HS1 := Aside0.mk (hx_alloc (hx_drew HZ) (.cells #[.int .u8 (D1.toNat : Int), .int .u8 (D2.toNat : Int)] 5)).out
      refine row_append_step (w := (wr.drew.alloc (.cells #[.int .u8 (D1.toNat : Int), .int .u8 (D2.toNat : Int)] 5))) (.tmp 13) (.tmp 24) 70 rfl 5 Tryd.t5 (.int .u8 0) 1 1 Tryd.underlying70 (by kernel_rfl) rfl rfl rfl (by decide) (by decide) w.heap.size u3 (2 * i) (byV (hexP (s.data.toList.take i))) (by rfl) HS1.out.1 ⟨wr.heap.size, 0, none⟩ 2 2 [.int .u8 (D1.toNat : Int), .int .u8 (D2.toNat : Int)] (by rfl) rfl (new_news wr.drew _ _) (by simp [Value.oneCell']) (by simp only [maxLen]; omega) (by omega) HS1.out.2.size ?_
      intro v1 w6 hR6 hG6 hO6 hF6
      have HB6 := Aside0.mk (gb_below HS1.out.2 hG6 (fun k hk => (HS1.out.1.lt hk).2.1))
      have HR6 := Aside0.mk hR6
      clear hR6 hG6 hO6 hF6
      refine hK.out _ _ ?_
      clear hK K
      refine norm_ (a' := ?_) ?_ ?_
      rotate_left
      · show Act.put _ (some 25) _ = _
        simp only [Act.put, List.setIfInBounds_toArray, List.set_cons_zero, List.set_cons_succ, i64_w, i32_w]
        rfl
      refine pure_ (i := 13) (N := some 3) (v := ?_) (a' := ?_) #[true, true, true, true, true, true, true, true, true, true, true, true, true, true] rfl rfl (by kernel_rfl) (fun _ _ _ h => h) (Or.inl ⟨by rfl, ?_⟩) ?_ ?_
      rotate_left
      · intro w'
        go_simp
        with_reducible rfl
      rotate_left
      · simp only [Act.put, List.setIfInBounds_toArray, List.set_cons_zero, List.set_cons_succ, i64_w, i32_w]
        rfl
      refine done_ (by kernel_rfl) ?_
      go_wp2_with fail
      refine ⟨⟨i + 1, by simp, by omega, ⟨?_, HB6.out⟩⟩, by simp [intOf]; omega⟩
      rw [HT.out, byV_two, show 2 * (i + 1) = 2 * i + 2 by omega]
      exact HR6.out
    · have p1 : decide ((i : Int) < (s.size : Int)) = false := decide_eq_false (by omega)
      have hin : i = s.size := by omega
      subst hin
      have hT : s.data.toList.take s.size = s.data.toList := List.take_of_length_le (by omega)
      rw [hT] at HZ
      clear hT
      obtain ⟨g, off, c, rfl, hg, hc1, hc2, hcell⟩ := HZ.out.1.some_ (by omega)
      have hc := run_convert_bytes_back wr 70 9 5 ⟨g, off, none⟩ c (hexP s.data.toList) Tryd.underlying70 Tryd.underlying5 Tryd.underlying9 (fun j hj => by
        rw [Addr.add_lit]
        refine hcell j _ ?_
        unfold byV
        rw [List.getElem?_map, List.getElem?_eq_getElem hj]
        rfl)
      rw [hexP_length, hl] at hc
      clear hcell
      go_wp2_with fail
      go_ret
      exact ⟨by rw [HN.out]; rfl, HZ.out.2⟩
end Go.Proofs.YtkjjjgplidompaaDoor.B
