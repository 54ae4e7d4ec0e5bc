/-
  Bytes of two digits each: the program's way. Walk.
-/
import Derived.Test.YtkjjjgplidompaaDoorKe
import Derived.Laws.IdiomStrings
import Derived.Laws.MakeOwn
import Derived.Deep.OwnRows
namespace Go.Proofs.YtkjjjgplidompaaDoor.B
open Go.RowKit Go.Proofs.YtkjjjgplidompaaDoorW.PrintWords Go.Proofs.YtkjjjgplidompaaDoorW.PrintLast Go.Proofs.YtkjjjgplidompaaDoorW.PrintMore
set_option linter.unusedVariables false
set_option linter.unusedSimpArgs false
def BytsAt (w : World) (g : Nat) (L : List UInt8) : Prop := ∀ j (h : j < L.length), w.cell? ⟨g, j, none⟩ = some (.int .u8 (L[j].toNat : Int)) ∧ w.frozen? ⟨g, j, none⟩ = false
theorem BytsAt.set {w : World} {g : Nat} {L : List UInt8} (h : BytsAt w g L) (i : Nat) (x : UInt8) : BytsAt (w.setCell ⟨g, i, none⟩ (.int .u8 (x.toNat : Int))) g (L.set i x) := by
  intro j hj
  have hj' : j < L.length := by simpa using hj
  obtain ⟨h1, h2⟩ := h j hj'
  refine ⟨?_, ?_⟩
  · by_cases e : i = j
    · subst e
      rw [List.getElem_set_self]
      have hl := World.block_lt_of_cell? w _ h1
      dsimp only at hl
      simp [go_sem, hl, h1]
    · rw [List.getElem_set_ne e, World.cell?_setCell_other w ⟨g, i, none⟩ ⟨g, j, none⟩ _ (by intro h; injection h with _ h; exact e h)]
      exact h1
  · rw [World.frozen?_setCell]
    exact h2
theorem made_byts (w : World) (n : Nat) (t : TypeId) : BytsAt (w.alloc (.cells (madeCells #[Value.int .u8 0] n) t)) w.heap.size (List.replicate n 0) := by
  intro j hj
  have hj' : j < n := by simpa using hj
  have hb := blk_new w (.cells (madeCells #[Value.int .u8 0] n) t)
  refine ⟨?_, ?_⟩
  · rw [blk_cell hb j]
    simp [madeCells, hj']
    rw [Nat.mod_one]
    rfl
  · exact blk_frozen hb j
/-- Behind i rounds: the first i bytes are told, the others are 0. -/
def bytsL (d : List UInt8) (n i : Nat) : List UInt8 := (List.range n).map fun k => if k < i then unhexAt d k else 0
theorem bytsL_start (d : List UInt8) (n : Nat) : bytsL d n 0 = List.replicate n 0 := by
  unfold bytsL
  apply List.ext_getElem
  · simp
  · intro k h1 h2; simp
theorem bytsL_step (d : List UInt8) (n i : Nat) (h : i < n) : (bytsL d n i).set i (unhexAt d i) = bytsL d n (i + 1) := by
  unfold bytsL
  apply List.ext_getElem
  · simp
  · intro k h1 h2
    rw [List.getElem_set]
    simp
    by_cases hk : i = k
    · subst hk; simp
    · rw [if_neg hk]
      by_cases h3 : k < i
      · rw [if_pos h3, if_pos (by omega)]
      · rw [if_neg h3, if_neg (by omega)]
theorem bytsL_end (d : List UInt8) (n : Nat) : bytsL d n n = (List.range n).map (unhexAt d) := by
  unfold bytsL
  apply List.map_congr_left
  intro k hk
  rw [if_pos (List.mem_range.1 hk)]
theorem bytsL_length (d : List UInt8) (n i : Nat) : (bytsL d n i).length = n := by simp [bytsL]
theorem run_make_bytes (n : Nat) (h : n ≤ 1000000) (w : World) : (Instr.makeSlice 70 (.int .i64 (n : Int)) (.int .i64 (n : Int))).run Tryd.prog w = .ok (.slice (some ⟨w.heap.size, 0, none⟩) n n) (w.alloc (.cells (madeCells #[.int .u8 0] n) 5)) := by
  exact run_make_row' 70 5 (.int .u8 0) 1 Tryd.underlying70 (by kernel_rfl) rfl .i64 .i64 n (by omega) (by omega) w
theorem or_16 (x y : Nat) (hx : x < 16) (hy : y < 16) : bits BinOp.or IntKind.i64 (((16 * x : Nat)) : Int) ((y : Nat) : Int) = (((16 * x + y : Nat)) : Int) := by
  have key : ∀ x : Fin 16, ∀ y : Fin 16, bits BinOp.or IntKind.i64 (((16 * x.val : Nat)) : Int) ((y.val : Nat) : Int) = (((16 * x.val + y.val : Nat)) : Int) := by decide
  exact key ⟨x, hx⟩ ⟨y, hy⟩
theorem shl_16 (x : Nat) (hx : x < 16) (w : World) : (Op.shift .shl .i64 ((x : Nat) : Int) .u64 4).run Tryd.prog w = .ok (.int .i64 (((16 * x : Nat)) : Int)) w := by
  have h : x = 0 ∨ x = 1 ∨ x = 2 ∨ x = 3 ∨ x = 4 ∨ x = 5 ∨ x = 6 ∨ x = 7 ∨ x = 8 ∨ x = 9 ∨ x = 10 ∨ x = 11 ∨ x = 12 ∨ x = 13 ∨ x = 14 ∨ x = 15 := by omega
  rcases h with rfl | rfl | rfl | rfl | rfl | rfl | rfl | rfl | rfl | rfl | rfl | rfl | rfl | rfl | rfl | rfl <;> rfl
theorem byte_val (x y : Nat) (hx : x < 16) (hy : y < 16) : IntKind.u8.wrap (bits BinOp.or IntKind.i64 (wrap64 ((x : Nat) * 16 : Int)) ((y : Nat) : Int)) = (((UInt8.ofNat (16 * x + y)).toNat : Nat) : Int) := by
  have e1 : wrap64 ((x : Nat) * 16 : Int) = ((16 * x : Nat) : Int) := by unfold wrap64; omega
  have e2 : ∀ z : Int, IntKind.u8.wrap z = z % 256 := fun z => by simp [IntKind.wrap, IntKind.signed, IntKind.bits]
  rw [e1, or_16 x y hx hy, e2, UInt8.toNat_ofNat']
  omega
theorem kb_drew {w0 w : World} {g : Nat} {L : List UInt8} (h : Aside0 (BytsAt w g L ∧ Below w0.heap.size w0 w)) : Aside0 (BytsAt w.drew g L ∧ Below w0.heap.size w0 w.drew) := ⟨h.out.1, h.out.2.drew⟩
theorem index_byte (s : ByteArray) (i : Nat) (h : i < s.size) (w : World) : (Instr.index 9 (.string s) (.int .i64 (i : Int))).run Tryd.prog w = .ok (.int .u8 ((s[i]'h).toNat : Int)) w := by
  have h2 := run_index_string (P := Tryd.prog) (w := w) 9 s .i64 (i : Int) Tryd.underlying9
  rw [dif_pos ⟨by omega, by omega⟩] at h2
  exact h2
def KBRel (s : ByteArray) (w : World) (g n : Nat) (v29 : Value) (wr : World) : Prop := ∃ i : Nat, v29 = .int .i64 i ∧ i ≤ n ∧ Aside0 (BytsAt wr g (bytsL s.data.toList n i) ∧ Below w.heap.size w wr)
theorem hex_pairs (s : ByteArray) (h : Lib.trimS s.data.toList hexs = []) : ∀ i (h1 : 2 * i < s.size) (h2 : 2 * i + 1 < s.size), ∃ x y : Nat, x < 16 ∧ y < 16 ∧ hexIx (s[2 * i]'h1) = (x : Int) ∧ hexIx (s[2 * i + 1]'h2) = (y : Int) ∧ unhexAt s.data.toList i = UInt8.ofNat (16 * x + y) := by
  intro i h1 h2
  have hc : ∀ j (hj : j < s.size), ∃ x : Nat, x < 16 ∧ hexIx (s[j]'hj) = (x : Int) ∧ hv (s.data.toList.getD j 0) = x := by
    intro j hj
    have hm := (trimS_nil s.data.toList hexs).1 h (s[j]'hj) (List.mem_of_getElem? (list_at s j hj))
    rw [hexs_is] at hm
    obtain ⟨x, hx⟩ := Option.isSome_iff_exists.1 hm
    refine ⟨x, hexVal_lt hx, by unfold hexIx; rw [hx], ?_⟩
    rw [List.getD_eq_getElem?_getD, list_at s j hj]
    unfold hv
    simp [hx]
  obtain ⟨x, a1, a2, a3⟩ := hc (2 * i) h1
  obtain ⟨y, b1, b2, b3⟩ := hc (2 * i + 1) h2
  refine ⟨x, y, a1, b1, a2, b2, ?_⟩
  unfold unhexAt
  rw [a3, b3]
set_option maxHeartbeats 4000000 in
set_option maxRecDepth 100000 in
theorem bytes_any (s : ByteArray) (w : World) (hs : s.size ≤ 1000000) : Calls Tryd.prog 17 #[.string s] w (BytesPost s.data.toList w) := by
  have hl := len_of s
  go_enter Tryd.func17, Tryd.ntmps17
  by_cases h0 : s.data.toList = [45]
  · have q0 : (s.toList == [45]) = true := by rw [eq_lit]; exact decide_eq_true h0
    have HN := Aside0.mk (bytesV_some (show unhexL s.data.toList = some [] by unfold unhexL; rw [if_pos h0]))
    clear h0
    go_wp2_with fail
    go_ret2
    exact ⟨by rw [HN.out]; rfl, Below.refl _ _⟩
  have q0 : (s.toList == [45]) = false := by rw [eq_lit]; exact decide_eq_false h0
  have H0 := Aside0.mk h0
  clear h0
  by_cases h1 : s.size = 0
  · have q1 : s.toList.isEmpty = true := by rw [str_emptyK]; exact decide_eq_true h1
    have HN := Aside0.mk (bytesV_none (unhex_fails s.data.toList H0.out (.inl (List.eq_nil_of_length_eq_zero (by omega)))))
    clear h1
    go_wp2_with fail
    go_ret2
    exact ⟨by rw [HN.out]; rfl, Below.refl _ _⟩
  have q1 : s.toList.isEmpty = false := by rw [str_emptyK]; exact decide_eq_false h1
  obtain ⟨r, hr⟩ : ∃ r, r = s.size % 2 := ⟨_, rfl⟩
  have w2 : Int.tmod (s.size : Int) 2 = (r : Int) := by rw [Int.tmod_eq_emod_of_nonneg (by omega)]; omega
  by_cases h2 : r = 0
  · have HTR := Aside0.mk (trim_any s hexs w hs (by decide) (by decide))
    obtain ⟨X, hX⟩ : ∃ X, X = Lib.trimS s.data.toList hexs := ⟨_, rfl⟩
    rw [← hX] at HTR
    have q2 : ((r : Int) != 0) = false := by rw [h2]; rfl
    by_cases h3 : X = []
    · have HN := Aside0.mk (unhex_ok s.data.toList H0.out (fun h => by rw [h] at hl; simp at hl; omega) (by omega) (by rw [← hX]; exact h3))
      obtain ⟨n, hn⟩ : ∃ n, n = s.size / 2 := ⟨_, rfl⟩
      rw [hl, ← hn] at HN
      have HV := Aside0.mk (bytesV_some HN.out)
      have w3 : (s.size : Int) / 2 = (n : Int) := by omega
      have HS := Aside0.mk (show s.size = 2 * n by omega)
      have hn1 : n ≤ 1000000 := by omega
      rw [h3] at HTR
      have HEX : Aside0 (∀ i (h1 : 2 * i < s.size) (h2 : 2 * i + 1 < s.size), ∃ x y : Nat, x < 16 ∧ y < 16 ∧ hexIx (s[2 * i]'h1) = (x : Int) ∧ hexIx (s[2 * i + 1]'h2) = (y : Int) ∧ unhexAt s.data.toList i = UInt8.ofNat (16 * x + y)) := ⟨hex_pairs s (by rw [← hX]; exact h3)⟩
      clear h3 hX h2 hr hn HN h1
      go_wp2_with fail
      refine HTR.out.mono ?_
      rintro e w1 ⟨rfl, hb1⟩
      have HB := Aside0.mk hb1
      clear hb1
      have hmk := run_make_bytes n hn1
      go_wp2_with fail
      obtain ⟨g, hg⟩ : ∃ g, g = w1.heap.size := ⟨_, rfl⟩
      have HG := Aside0.mk (show w.heap.size ≤ g by rw [hg]; exact HB.out.size)
      have HL0 := Aside0.mk (made_byts w1 n 5)
      have HB0 := Aside0.mk (HB.out.alloc HB.out.size (.cells (madeCells #[Value.int .u8 0] n) 5))
      rw [← hg] at HL0
      rw [← hg]
      clear hg
      go_loopw [5, 29] (fun _ v29 wr => KBRel s w g n v29 wr) (fun _ v _ => n - (intOf v).toNat)
      case atStart => exact ⟨0, rfl, by omega, ⟨by rw [bytsL_start]; exact HL0.out, HB0.out⟩⟩
      case round =>
        obtain ⟨i, rfl, hi, HL⟩ := hrel
        by_cases hlt : i < n
        · have p1 : decide ((i : Int) < (n : Int)) = true := decide_eq_true (by omega)
          have hi1 : 2 * i < s.size := by have := HS.out; omega
          have hi2 : 2 * i + 1 < s.size := by have := HS.out; omega
          have HI := Aside0.mk (bytsL_step s.data.toList n i hlt)
          have HBY : Aside0 (∃ x y : Nat, x < 16 ∧ y < 16 ∧ hexIx (s[2 * i]'hi1) = (x : Int) ∧ hexIx (s[2 * i + 1]'hi2) = (y : Int) ∧ unhexAt s.data.toList i = UInt8.ofNat (16 * x + y)) := ⟨HEX.out i hi1 hi2⟩
          obtain ⟨x, y, hx, hy, e1, e2, e3⟩ := HBY.out
          obtain ⟨a, ha⟩ : ∃ a, a = s[2 * i]'hi1 := ⟨_, rfl⟩
          obtain ⟨b, hb⟩ : ∃ b, b = s[2 * i + 1]'hi2 := ⟨_, rfl⟩
          have x1 := index_byte s (2 * i) hi1
          have x2 := index_byte s (2 * i + 1) hi2
          rw [← ha] at x1 e1
          rw [← hb] at x2 e2
          rw [show ((2 * i : Nat) : Int) = 2 * (i : Int) by omega] at x1
          rw [show ((2 * i + 1 : Nat) : Int) = 2 * (i : Int) + 1 by omega] at x2
          clear ha hb HBY
          have CA : Aside0 (∀ w, Calls Tryd.prog 29 #[.string (tx hexs), .int .u8 (a.toNat : Int)] w fun e w' => e = .returned (.int .i64 (x : Int)) ∧ w' = w) := ⟨fun w => by rw [← e1]; exact index_any a w⟩
          have CB : Aside0 (∀ w, Calls Tryd.prog 29 #[.string (tx hexs), .int .u8 (b.toNat : Int)] w fun e w' => e = .returned (.int .i64 (y : Int)) ∧ w' = w) := ⟨fun w => by rw [← e2]; exact index_any b w⟩
          have HV2 : Aside0 (IntKind.u8.wrap (bits BinOp.or IntKind.i64 (wrap64 ((x : Int) * 16)) (y : Int)) = ((unhexAt s.data.toList i).toNat : Int)) := ⟨by rw [e3]; exact byte_val x y hx hy⟩
          have w5 : wrap64 (2 * (i : Int)) = 2 * (i : Int) := by unfold wrap64; omega
          have w6 : wrap64 (2 * (i : Int) + 1) = 2 * (i : Int) + 1 := by unfold wrap64; omega
          obtain ⟨c0, f0⟩ := HL.out.1 i (by rw [bytsL_length]; exact hlt)
          obtain ⟨L, hL⟩ : ∃ L, L = bytsL s.data.toList n i := ⟨_, rfl⟩
          rw [← hL] at HL HI
          generalize (Value.int .u8 (((bytsL s.data.toList n i)[i]'(by rw [bytsL_length]; exact hlt)).toNat : Int)) = z at c0
          clear hL e1 e2 e3 hx hy hi1 hi2
          go_wp2_with fail
          refine start_ (n := 18) (S := fun w' => w'.cell? ⟨g, i, none⟩ = some z ∧ w'.frozen? ⟨g, i, none⟩ = false ∧ Aside0 (BytsAt w' g L ∧ Below w.heap.size w w')) (ds := [17]) #[false, false, false, false, false, false, false, false, false, false, false, false, false, false, false, false, false, false] (by kernel_rfl) rfl rfl ⟨c0, f0, (kb_drew HL)⟩ (fun hHeld => ?_)
          refine pure_ (i := 0) (N := some 32) (v := ?_) (a' := ?_) #[true, false, false, false, false, false, false, false, false, false, false, false, false, false, false, false, false, false] rfl rfl (by kernel_rfl) (fun _ _ _ h => h) (Or.inl ⟨by rfl, ?_⟩) ?_ ?_
          rotate_left
          · intro w'
            go_simp
            with_reducible rfl
          rotate_left
          · simp only [Act.put, List.setIfInBounds_toArray, List.set_cons_zero, List.set_cons_succ, i64_w, i32_w]
            rfl
          refine pure_ (i := 1) (N := some 33) (v := ?_) (a' := ?_) #[true, true, false, false, false, false, false, false, false, false, false, false, false, false, false, false, false, false] rfl rfl (by kernel_rfl) (fun _ _ _ h => h) (Or.inl ⟨by rfl, ?_⟩) ?_ ?_
          rotate_left
          · intro w'
            go_simp
            with_reducible rfl
          rotate_left
          · simp only [Act.put, List.setIfInBounds_toArray, List.set_cons_zero, List.set_cons_succ, i64_w, i32_w]
            rfl
          refine pure_ (i := 2) (N := some 34) (v := ?_) (a' := ?_) #[true, true, true, false, false, false, false, false, false, false, false, false, false, false, false, false, false, false] rfl rfl (by kernel_rfl) (fun _ _ _ h => h) (Or.inl ⟨by rfl, ?_⟩) ?_ ?_
          rotate_left
          · intro w'
            go_simp
            with_reducible rfl
          rotate_left
          · simp only [Act.put, List.setIfInBounds_toArray, List.set_cons_zero, List.set_cons_succ, i64_w, i32_w]
            rfl
          refine pure_ (i := 3) (N := some 35) (v := ?_) (a' := ?_) #[true, true, true, true, false, false, false, false, false, false, false, false, false, false, false, false, false, false] rfl rfl (by kernel_rfl) (fun _ _ _ h => h) (Or.inl ⟨by rfl, ?_⟩) ?_ ?_
          rotate_left
          · intro w'
            go_simp
            with_reducible rfl
          rotate_left
          · simp only [Act.put, List.setIfInBounds_toArray, List.set_cons_zero, List.set_cons_succ, i64_w, i32_w]
            rfl
          refine pure_ (i := 4) (N := some 36) (v := ?_) (a' := ?_) #[true, true, true, true, true, false, false, false, false, false, false, false, false, false, false, false, false, false] rfl rfl (by kernel_rfl) (fun _ _ _ h => h) (Or.inl ⟨by rfl, ?_⟩) ?_ ?_
          rotate_left
          · intro w'
            go_simp
            with_reducible rfl
          rotate_left
          · simp only [Act.put, List.setIfInBounds_toArray, List.set_cons_zero, List.set_cons_succ, i64_w, i32_w]
            rfl
          refine pure_ (i := 8) (N := some 40) (v := ?_) (a' := ?_) #[true, true, true, true, true, false, false, false, true, false, false, false, false, false, false, false, false, false] rfl rfl (by kernel_rfl) (fun _ _ _ h => h) (Or.inl ⟨by rfl, ?_⟩) ?_ ?_
          rotate_left
          · intro w'
            go_simp
            with_reducible rfl
          rotate_left
          · simp only [Act.put, List.setIfInBounds_toArray, List.set_cons_zero, List.set_cons_succ, i64_w, i32_w]
            rfl
          refine pure_ (i := 9) (N := some 41) (v := ?_) (a' := ?_) #[true, true, true, true, true, false, false, false, true, true, false, false, false, false, false, false, false, false] rfl rfl (by kernel_rfl) (fun _ _ _ h => h) (Or.inl ⟨by rfl, ?_⟩) ?_ ?_
          rotate_left
          · intro w'
            go_simp
            with_reducible rfl
          rotate_left
          · simp only [Act.put, List.setIfInBounds_toArray, List.set_cons_zero, List.set_cons_succ, i64_w, i32_w]
            rfl
          refine pure_ (i := 10) (N := some 42) (v := ?_) (a' := ?_) #[true, true, true, true, true, false, false, false, true, true, true, false, false, false, false, false, false, false] rfl rfl (by kernel_rfl) (fun _ _ _ h => h) (Or.inl ⟨by rfl, ?_⟩) ?_ ?_
          rotate_left
          · intro w'
            go_simp
            with_reducible rfl
          rotate_left
          · simp only [Act.put, List.setIfInBounds_toArray, List.set_cons_zero, List.set_cons_succ, i64_w, i32_w]
            rfl
          refine pure_ (i := 11) (N := some 43) (v := ?_) (a' := ?_) #[true, true, true, true, true, false, false, false, true, true, true, true, false, false, false, false, false, false] rfl rfl (by kernel_rfl) (fun _ _ _ h => h) (Or.inl ⟨by rfl, ?_⟩) ?_ ?_
          rotate_left
          · intro w'
            go_simp
            with_reducible rfl
          rotate_left
          · simp only [Act.put, List.setIfInBounds_toArray, List.set_cons_zero, List.set_cons_succ, i64_w, i32_w]
            rfl
          refine take_ (i := 5) (N := some 37) (v := ?_) (a' := ?_) #[true, true, true, true, true, true, false, false, true, true, true, true, false, false, false, false, false, false] rfl rfl (by kernel_rfl) (fun _ _ _ h => h) (Or.inl ⟨by rfl, ?_⟩) hHeld ?_ ?_
          rotate_left
          · rintro w' ⟨s0, s1, s2⟩
            go_simp
            with_reducible rfl
          rotate_left
          · simp only [Act.put, List.setIfInBounds_toArray, List.set_cons_zero, List.set_cons_succ, i64_w, i32_w]
            rfl
          refine take_ (i := 12) (N := some 44) (v := ?_) (a' := ?_) #[true, true, true, true, true, true, false, false, true, true, true, true, true, false, false, false, false, false] rfl rfl (by kernel_rfl) (fun _ _ _ h => h) (Or.inl ⟨by rfl, ?_⟩) hHeld ?_ ?_
          rotate_left
          · rintro w' ⟨s0, s1, s2⟩
            go_simp
            with_reducible rfl
          rotate_left
          · simp only [Act.put, List.setIfInBounds_toArray, List.set_cons_zero, List.set_cons_succ, i64_w, i32_w]
            rfl
          refine one_ (i := 6) (N := some 38) #[true, true, true, true, true, true, true, false, true, true, true, true, true, false, false, false, false, false] rfl rfl (by kernel_rfl) (by decide) (fun K hK => ?_)
          refine goes_ Tryd.func29 (by kernel_rfl) rfl #[.string { data := #[48, 49, 50, 51, 52, 53, 54, 55, 56, 57, 97, 98, 99, 100, 101, 102] }, .int .u8 (a.toNat : Int)] (by rfl) rfl rfl (by simp only [List.map_toArray, List.map_cons, List.map_nil]; rfl) ?_
          with_reducible refine (CA.out _).mono ?_
          rintro e w3 ⟨rfl, rfl⟩
          refine ⟨_, rfl, ?_⟩
          refine hK.out _ _ ⟨hHeld.1, hHeld.2.1, hHeld.2.2⟩ (fun hHeld => ?_)
          clear hK K
          refine norm_ (a' := ?_) ?_ ?_
          rotate_left
          · show Act.put _ (some 38) _ = _
            simp only [Act.put, List.setIfInBounds_toArray, List.set_cons_zero, List.set_cons_succ, i64_w, i32_w]
            rfl
          refine pure_ (i := 7) (N := some 39) (v := ?_) (a' := ?_) #[true, true, true, true, true, true, true, true, true, true, true, true, true, false, false, false, false, false] rfl rfl (by kernel_rfl) (fun _ _ _ h => h) (Or.inl ⟨by rfl, ?_⟩) ?_ ?_
          rotate_left
          · intro w'
            go_simp
            with_reducible rfl
          rotate_left
          · simp only [Act.put, List.setIfInBounds_toArray, List.set_cons_zero, List.set_cons_succ, i64_w, i32_w]
            rfl
          refine one_ (i := 13) (N := some 45) #[true, true, true, true, true, true, true, true, true, true, true, true, true, true, false, false, false, false] rfl rfl (by kernel_rfl) (by decide) (fun K hK => ?_)
          refine goes_ Tryd.func29 (by kernel_rfl) rfl #[.string { data := #[48, 49, 50, 51, 52, 53, 54, 55, 56, 57, 97, 98, 99, 100, 101, 102] }, .int .u8 (b.toNat : Int)] (by rfl) rfl rfl (by simp only [List.map_toArray, List.map_cons, List.map_nil]; rfl) ?_
          with_reducible refine (CB.out _).mono ?_
          rintro e w3 ⟨rfl, rfl⟩
          refine ⟨_, rfl, ?_⟩
          refine hK.out _ _ ⟨hHeld.1, hHeld.2.1, hHeld.2.2⟩ (fun hHeld => ?_)
          clear hK K
          refine norm_ (a' := ?_) ?_ ?_
          rotate_left
          · show Act.put _ (some 45) _ = _
            simp only [Act.put, List.setIfInBounds_toArray, List.set_cons_zero, List.set_cons_succ, i64_w, i32_w]
            rfl
          refine pure_ (i := 14) (N := some 46) (v := ?_) (a' := ?_) #[true, true, true, true, true, true, true, true, true, true, true, true, true, true, true, false, false, false] rfl rfl (by kernel_rfl) (fun _ _ _ h => h) (Or.inl ⟨by rfl, ?_⟩) ?_ ?_
          rotate_left
          · intro w'
            go_simp
            with_reducible rfl
          rotate_left
          · simp only [Act.put, List.setIfInBounds_toArray, List.set_cons_zero, List.set_cons_succ, i64_w, i32_w]
            rfl
          refine pure_ (i := 15) (N := some 47) (v := ?_) (a' := ?_) #[true, true, true, true, true, true, true, true, true, true, true, true, true, true, true, true, false, false] rfl rfl (by kernel_rfl) (fun _ _ _ h => h) (Or.inl ⟨by rfl, ?_⟩) ?_ ?_
          rotate_left
          · intro w'
            go_simp
            with_reducible rfl
          rotate_left
          · simp only [Act.put, List.setIfInBounds_toArray, List.set_cons_zero, List.set_cons_succ, i64_w, i32_w]
            rfl
          refine pure_ (i := 16) (N := some 48) (v := ?_) (a' := ?_) #[true, true, true, true, true, true, true, true, true, true, true, true, true, true, true, true, true, false] rfl rfl (by kernel_rfl) (fun _ _ _ h => h) (Or.inl ⟨by rfl, ?_⟩) ?_ ?_
          rotate_left
          · intro w'
            go_simp
            with_reducible rfl
          rotate_left
          · simp only [Act.put, List.setIfInBounds_toArray, List.set_cons_zero, List.set_cons_succ, i64_w, i32_w]
            rfl
          refine last_ (i := 17) (N := none) #[true, true, true, true, true, true, true, true, true, true, true, true, true, true, true, true, true, true] rfl rfl (by kernel_rfl) (by decide) (fun K hK => ?_)
          refine skip_ (w1 := ?_) (by rfl) rfl ?_ ?_
          rotate_left
          · go_simp
            rfl
          refine hK.out _ _ ?_
          clear hK K
          refine done_ (by kernel_rfl) ?_
          rw [HV2.out]
          go_wp2_with fail
          refine ⟨⟨i + 1, by simp, by omega, ⟨?_, ?_⟩⟩, by simp [intOf]; omega⟩
          · rw [← HI.out]
            exact HL.out.1.set i (unhexAt s.data.toList i)
          · exact (HL.out.2.setCell (p := ⟨g, i, none⟩) HG.out _).drew
        · have p1 : decide ((i : Int) < (n : Int)) = false := decide_eq_false (by omega)
          have hin : i = n := by omega
          rw [hin] at HL
          have hc := run_convert_bytes_back wr 70 9 5 ⟨g, 0, none⟩ n (bytsL s.data.toList n n) Tryd.underlying70 Tryd.underlying5 Tryd.underlying9 (fun j hj => by
            rw [Addr.add_lit, Nat.zero_add]
            exact (HL.out.1 j hj).1)
          rw [bytsL_length, bytsL_end] at hc
          clear hin
          go_wp2_with fail
          go_ret2
          exact ⟨by rw [HV.out]; rfl, HL.out.2⟩
    · have q3 := isEmptyK h3
      have HN := Aside0.mk (bytesV_none (unhex_fails s.data.toList H0.out (.inr (.inr (by rw [← hX]; exact h3)))))
      clear h3 hX h2 hr
      go_wp2_with fail
      refine HTR.out.mono ?_
      rintro e w1 ⟨rfl, hb1⟩
      have HB := Aside0.mk hb1
      clear hb1
      go_wp2_with fail
      go_ret2
      exact ⟨by rw [HN.out]; rfl, HB.out⟩
  · have q2 : ((r : Int) != 0) = true := bne_iff_ne.2 (by omega)
    have HN := Aside0.mk (bytesV_none (unhex_fails s.data.toList H0.out (.inr (.inl (by omega)))))
    clear h2 hr
    go_wp2_with fail
    go_ret2
    exact ⟨by rw [HN.out]; rfl, Below.refl _ _⟩
end Go.Proofs.YtkjjjgplidompaaDoor.B
