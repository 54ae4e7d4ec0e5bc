/-
  Bytes of two digits each: the reference's way. Walk.
-/
import Derived.Test.YtkjjjgplidompaaDoorKf
namespace Go.Proofs.YtkjjjgplidompaaDoor.B
open Go.RowKit Go.Proofs.YtkjjjgplidompaaDoorW.PrintWords Go.Proofs.YtkjjjgplidompaaDoorW.PrintLast Go.Proofs.YtkjjjgplidompaaDoorW.PrintMore
set_option linter.unusedVariables false
set_option linter.unusedSimpArgs false
def byV (L : List UInt8) : List Value := L.map fun b => Value.int .u8 (b.toNat : Int)
def uhL (d : List UInt8) (k : Nat) : List UInt8 := (List.range k).map (unhexAt d)
theorem uhL_length (d : List UInt8) (k : Nat) : (uhL d k).length = k := by simp [uhL]
theorem byV_snoc (d : List UInt8) (k : Nat) : byV (uhL d (k + 1)) = byV (uhL d k) ++ [.int .u8 ((unhexAt d k).toNat : Int)] := by
  unfold uhL byV
  rw [List.range_succ, List.map_append, List.map_append]
  rfl
theorem hex_at (d : List UInt8) (i : Nat) {x y : Nat} (h1 : hexIx (d.getD (2 * i) 0) = (x : Int)) (h2 : hexIx (d.getD (2 * i + 1) 0) = (y : Int)) : x < 16 ∧ y < 16 ∧ unhexAt d i = UInt8.ofNat (16 * x + y) := by
  have hc : ∀ (c : UInt8) (x : Nat), hexIx c = (x : Int) → x < 16 ∧ hv c = x := by
    intro c x h
    unfold hexIx at h
    cases hx : hexVal c with
    | none => rw [hx] at h; simp at h
    | some n =>
      rw [hx] at h
      have e : n = x := by simp at h; omega
      subst e
      exact ⟨hexVal_lt hx, by unfold hv; rw [hx]; rfl⟩
  obtain ⟨a1, a2⟩ := hc _ x h1
  obtain ⟨b1, b2⟩ := hc _ y h2
  refine ⟨a1, b1, ?_⟩
  unfold unhexAt
  rw [a2, b2]
theorem getD_at (s : ByteArray) (j : Nat) (h : j < s.size) : s.data.toList.getD j 0 = s[j]'h := by
  rw [List.getD_eq_getElem?_getD, list_at s j h]; rfl
theorem hexIx_neg {c : UInt8} (h : hexIx c < 0) : hexVal c = none := by
  unfold hexIx at h
  cases hx : hexVal c with
  | none => rfl
  | some n => rw [hx] at h; simp at h; omega
theorem hexIx_pos {c : UInt8} (h : ¬ hexIx c < 0) : ∃ x : Nat, hexIx c = (x : Int) := ⟨(hexIx c).toNat, by omega⟩
theorem hexIx_some {c : UInt8} (h : ¬ hexIx c < 0) : (hexVal c).isSome = true := by
  unfold hexIx at h
  cases hx : hexVal c with
  | none => rw [hx] at h; simp at h
  | some n => rfl
def URel (s : ByteArray) (w : World) (v4 v5 : Value) (wr : World) : Prop := ∃ k : Nat, v5 = .int .i64 ((2 * k : Nat) : Int) ∧ 2 * k ≤ s.size ∧ Aside0 (RowV wr w.heap.size 5 1 v4 k (byV (uhL s.data.toList k))) ∧ Aside0 (Below w.heap.size w wr) ∧ Aside0 (∀ j, j < 2 * k → (hexVal (s.data.toList.getD j 0)).isSome = true)
set_option maxHeartbeats 4000000 in
set_option maxRecDepth 100000 in
theorem runhex_any (s : ByteArray) (w : World) (hs : s.size ≤ 1000000) : Calls Tryd.prog 20 #[.string s] w (BytesPost s.data.toList w) := by
  have hl := len_of s
  go_enter Tryd.func20, Tryd.ntmps20
  by_cases h0 : s.data.toList = [45]
  · have q0 : (s.toList == [45]) = true := by rw [eq_lit]; exact decide_eq_true h0
    have HN := Aside0.mk (bytesV_some (show unhexL s.data.toList = some [] by unfold unhexL; rw [if_pos h0]))
    clear h0
    go_wp2_with fail
    go_ret2
    exact ⟨by rw [HN.out]; rfl, Below.refl _ _⟩
  have q0 : (s.toList == [45]) = false := by rw [eq_lit]; exact decide_eq_false h0
  have H0 := Aside0.mk h0
  clear h0
  by_cases h1 : s.size = 0
  · have q1 : s.toList.isEmpty = true := by rw [str_emptyK]; exact decide_eq_true h1
    have HN := Aside0.mk (bytesV_none (unhex_fails s.data.toList H0.out (.inl (List.eq_nil_of_length_eq_zero (by omega)))))
    clear h1
    go_wp2_with fail
    go_ret2
    exact ⟨by rw [HN.out]; rfl, Below.refl _ _⟩
  have q1 : s.toList.isEmpty = false := by rw [str_emptyK]; exact decide_eq_false h1
  obtain ⟨r, hr⟩ : ∃ r, r = s.size % 2 := ⟨_, rfl⟩
  have w2 : Int.tmod (s.size : Int) 2 = (r : Int) := by rw [Int.tmod_eq_emod_of_nonneg (by omega)]; omega
  by_cases h2 : r = 0
  · have q2 : ((r : Int) != 0) = false := by rw [h2]; rfl
    obtain ⟨n, hn⟩ : ∃ n, n = s.size / 2 := ⟨_, rfl⟩
    have HS := Aside0.mk (show s.size = 2 * n by omega)
    have HNE := Aside0.mk (show s.data.toList ≠ [] from fun h => by rw [h] at hl; simp at hl; omega)
    clear h2 hr hn h1
    go_wp2_with fail
    go_loopw [4, 5, 6, 7] (fun v4 v5 _ _ wr => URel s w v4 v5 wr) (fun _ v _ _ _ => s.size - (intOf v).toNat)
    case atStart => exact ⟨0, rfl, by omega, ⟨by simpa [byV, uhL] using RowV.nil w w.heap.size 5 1⟩, ⟨Below.refl _ _⟩, ⟨fun j hj => absurd hj (by omega)⟩⟩
    case round =>
      obtain ⟨k, rfl, hk, HR, HB, HA⟩ := hrel
      by_cases hlt : 2 * k < s.size
      · obtain ⟨i, hi⟩ : ∃ i : Nat, i = 2 * k := ⟨_, rfl⟩
        have hi2 : i + 1 < s.size := by have := HS.out; omega
        rw [← hi] at hlt hk
        rw [← hi]
        have p1 : decide ((i : Int) < (s.size : Int)) = true := decide_eq_true (by omega)
        have hik : k ≤ 1000000 := by omega
        obtain ⟨a, ha⟩ : ∃ a, a = s[i]'hlt := ⟨_, rfl⟩
        obtain ⟨b, hb⟩ : ∃ b, b = s[i + 1]'hi2 := ⟨_, rfl⟩
        have x1 := index_byte s i hlt
        have x2 := index_byte s (i + 1) hi2
        rw [← ha] at x1
        rw [← hb] at x2
        rw [show ((i + 1 : Nat) : Int) = (i : Int) + 1 by omega] at x2
        have GA : Aside0 (s.data.toList.getD (2 * k) 0 = a) := ⟨by rw [ha, ← hi]; exact getD_at s i hlt⟩
        have GB : Aside0 (s.data.toList.getD (2 * k + 1) 0 = b) := ⟨by rw [hb, ← hi]; exact getD_at s (i + 1) hi2⟩
        have HI := Aside0.mk hi
        have w5 : IntKind.i64.wrap ((i : Int) + 1) = (i : Int) + 1 := wrap_small _ (by omega) (by omega)
        have MA : Aside0 (a ∈ s.data.toList) := ⟨by rw [ha]; exact List.mem_of_getElem? (list_at s i hlt)⟩
        have MB : Aside0 (b ∈ s.data.toList) := ⟨by rw [hb]; exact List.mem_of_getElem? (list_at s (i + 1) hi2)⟩
        obtain ⟨x, hx⟩ : ∃ x, x = hexIx a := ⟨_, rfl⟩
        obtain ⟨y, hy⟩ : ∃ y, y = hexIx b := ⟨_, rfl⟩
        have CA : Aside0 (∀ w, Calls Tryd.prog 30 #[.int .u8 (a.toNat : Int)] w fun e w' => e = .returned (.int .i64 x) ∧ w' = w) := ⟨fun w => by rw [hx]; exact digit_any a w⟩
        have CB : Aside0 (∀ w, Calls Tryd.prog 30 #[.int .u8 (b.toNat : Int)] w fun e w' => e = .returned (.int .i64 y) ∧ w' = w) := ⟨fun w => by rw [hy]; exact digit_any b w⟩
        have HX := Aside0.mk hx
        have HY := Aside0.mk hy
        clear hx hy ha hb hi
        go_wp2_with fail
        go_quiet ((first | (go_at_call 30; with_reducible exact Calls.quiet_of_same (CA.out _)) | (go_at_call 30; with_reducible exact Calls.quiet_of_same (CB.out _))))
        by_cases z1 : x < 0 ∨ y < 0
        · have HN : Aside0 (bytesV s.data.toList = .tuple #[.string (tx []), .bool false]) := ⟨by
            refine bytesV_none ?_
            unfold unhexL
            rw [if_neg H0.out, if_neg HNE.out]
            refine unhexP_bad n _ (by rw [hl]; exact HS.out) ?_
            rcases z1 with z | z
            · exact ⟨a, MA.out, hexIx_neg (by rw [← HX.out]; exact z)⟩
            · exact ⟨b, MB.out, hexIx_neg (by rw [← HY.out]; exact z)⟩⟩
          have HT : Aside0 (decide (x < 0) = true ∨ (decide (x < 0) = false ∧ decide (y < 0) = true)) := by
            by_cases z : x < 0
            · exact ⟨.inl (decide_eq_true z)⟩
            · exact ⟨.inr ⟨decide_eq_false z, decide_eq_true (by omega)⟩⟩
          clear z1
          rcases HT.out with t1 | ⟨t1, t2⟩
          all_goals
            go_wp2_with fail
            go_ret2
            exact ⟨by rw [HN.out]; rfl, pw_below_drewN HB.out nq⟩
        · have t1 : decide (x < 0) = false := decide_eq_false (by omega)
          have t2 : decide (y < 0) = false := decide_eq_false (by omega)
          obtain ⟨m, rfl⟩ : ∃ m : Nat, x = (m : Int) := ⟨x.toNat, by omega⟩
          obtain ⟨l, rfl⟩ : ∃ l : Nat, y = (l : Int) := ⟨y.toNat, by omega⟩
          obtain ⟨e1, e2, e3⟩ := hex_at s.data.toList k (x := m) (y := l) (by rw [GA.out, ← HX.out]) (by rw [GB.out, ← HY.out])
          have HA2 : Aside0 (∀ j, j < 2 * (k + 1) → (hexVal (s.data.toList.getD j 0)).isSome = true) := ⟨fun j hj => by
            by_cases c1 : j < 2 * k
            · exact HA.out j c1
            · by_cases c2 : j = 2 * k
              · subst c2; rw [GA.out]; exact hexIx_some (by rw [← HX.out]; omega)
              · obtain rfl : j = 2 * k + 1 := by omega
                rw [GB.out]; exact hexIx_some (by rw [← HY.out]; omega)⟩
          obtain ⟨v, hv⟩ : ∃ v, v = unhexAt s.data.toList k := ⟨_, rfl⟩
          rw [← hv] at e3
          have HVV := Aside0.mk hv
          have hvn : ((v.toNat : Nat) : Int) = 16 * (m : Int) + (l : Int) := by rw [e3, UInt8.toNat_ofNat']; omega
          have HE := Aside0.mk e3
          have XR := Aside0.mk (((HR.out.below (pw_below_drewN (Below.refl _ wr) nq))).alloc (.cells #[.int .u8 (16 * (m : Int) + (l : Int))] 5))
          have XB := Aside0.mk ((pw_below_drewN HB.out nq).alloc (pw_below_drewN HB.out nq).size (.cells #[.int .u8 (16 * (m : Int) + (l : Int))] 5))
          have HNX := Aside0.mk (new_news (wr.drewN nq) [.int .u8 (16 * (m : Int) + (l : Int))] 5)
          have HVN := Aside0.mk hvn
          clear z1 hv e3 hvn
          go_wp2_with (at_builtin; go_loud (refine row_append (w := (wr.drewN nq).alloc (.cells #[.int .u8 (16 * (m : Int) + (l : Int))] 5)) rfl (.tmp 39) (.tmp 45) 70 rfl 5 Tryd.t5 (.int .u8 0) 1 1 Tryd.underlying70 (by kernel_rfl) rfl rfl rfl (by decide) (by decide) w.heap.size _ k (byV (uhL s.data.toList k)) (by rfl) XR.out ⟨wr.heap.size, 0, none⟩ 1 1 [.int .u8 (16 * (m : Int) + (l : Int))] (by rfl) rfl HNX.out (by simp [Value.oneCell']) (by simp only [maxLen]; omega) (by omega) XB.out.size ?_); intro v1 w6 hR6 hG6 hO6 hF6; have XB' := Aside0.mk (gb_below XB.out hG6 (fun k hk => (XR.out.lt hk).2.1)); have HR6 := Aside0.mk hR6; clear hR6 hG6 hO6 hF6)
          refine ⟨⟨k + 1, by rw [HI.out]; congr 1, by have := HI.out; omega, ⟨?_⟩, XB', HA2⟩, by simp [intOf]; omega⟩
          rw [byV_snoc, ← HVV.out, HVN.out]
          exact HR6.out
      · have p1 : decide (((2 * k : Nat) : Int) < (s.size : Int)) = false := decide_eq_false (by omega)
        have hkn : k = n := by have := HS.out; omega
        subst hkn
        have hk0 : 0 < k := by
          rcases Nat.eq_zero_or_pos k with h | h
          · exact absurd (List.eq_nil_of_length_eq_zero (by rw [hl, HS.out, h])) HNE.out
          · exact h
        obtain ⟨g, off, c, rfl, hg, hc1, hc2, hcell⟩ := HR.out.some_ hk0
        have hc := run_convert_bytes_back wr 70 9 5 ⟨g, off, none⟩ c (uhL s.data.toList k) Tryd.underlying70 Tryd.underlying5 Tryd.underlying9 (fun j hj => by
          rw [Addr.add_lit]
          refine hcell j _ ?_
          unfold byV
          rw [List.getElem?_map, List.getElem?_eq_getElem hj]
          rfl)
        rw [uhL_length] at hc
        have HV : Aside0 (bytesV s.data.toList = .tuple #[.string (tx (uhL s.data.toList k)), .bool true]) := ⟨by
          refine bytesV_some ?_
          unfold unhexL
          rw [if_neg H0.out, if_neg HNE.out]
          refine unhexP_is k _ (by rw [hl]; exact HS.out) ?_
          intro c hm
          obtain ⟨j, hj, hj2⟩ := List.mem_iff_getElem.1 hm
          have := HA.out j (by have := HS.out; omega)
          rw [List.getD_eq_getElem?_getD, List.getElem?_eq_getElem hj] at this
          rw [← hj2]
          exact this⟩
        clear hcell
        go_wp2_with fail
        go_ret2
        exact ⟨by rw [HV.out]; rfl, HB.out⟩
  · have q2 : ((r : Int) != 0) = true := bne_iff_ne.2 (by omega)
    have HN := Aside0.mk (bytesV_none (unhex_fails s.data.toList H0.out (.inr (.inl (by omega)))))
    clear h2 hr
    go_wp2_with fail
    go_ret2
    exact ⟨by rw [HN.out]; rfl, Below.refl _ _⟩
end Go.Proofs.YtkjjjgplidompaaDoor.B
