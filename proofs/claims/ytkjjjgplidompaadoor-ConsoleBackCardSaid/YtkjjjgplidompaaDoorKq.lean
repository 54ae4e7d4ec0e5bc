/-
  ConsoleBack. Walk.
-/
import Derived.Test.YtkjjjgplidompaaDoorKo
namespace Go.Proofs.YtkjjjgplidompaaDoor.B
open Go.RowKit Go.Proofs.YtkjjjgplidompaaDoorW.PrintWords Go.Proofs.YtkjjjgplidompaaDoorW.PrintLast Go.Proofs.YtkjjjgplidompaaDoorW.PrintMore
set_option linter.unusedVariables false
set_option linter.unusedSimpArgs false
theorem unhex_len {d b : List UInt8} (h : unhexL d = some b) : b.length ≤ d.length := by
  have hb := hex_back h
  rw [← hb]
  unfold hexL
  split
  · rename_i e; rw [e]; simp
  · rw [hexP_length]; omega
/-- What a line's step holds. -/
theorem parse_StI {l : List UInt8} {s : LStep} (h : parseL l = some s) (hl : l.length ≤ 40000) : StI s := by
  have hw := words_len l
  unfold parseL at h
  generalize wordsL l = W at h hw
  unfold parseW at h
  split at h
  · rename_i k a r
    obtain ⟨t, ht, h⟩ := Option.bind_eq_some_iff.1 h
    have ht' := numberL_lt ht
    unfold stepW at h
    split at h
    · split at h
      · injection h with h
        subst h
        exact ⟨⟨by dsimp only; omega, by dsimp only; omega⟩, by dsimp only; omega, by dsimp only; omega, by dsimp only; omega, by dsimp only; omega, by simp⟩
      · cases h
    · split at h
      · split at h
        · rename_i d _
          obtain ⟨b, hb, h⟩ := Option.map_eq_some_iff.1 h
          subst h
          have h1 := unhex_len hb
          have h2 := hw d (by simp)
          exact ⟨⟨by dsimp only; omega, by dsimp only; omega⟩, by dsimp only; omega, by dsimp only; omega, by dsimp only; omega, by dsimp only; omega, by dsimp only; omega⟩
        · cases h
      · split at h
        · split at h
          · split at h
            · rename_i a1 b1 c1 d1 e1 e2 e3 e4
              injection h with h
              subst h
              have h1 := numberL_lt e1
              have h2 := numberL_lt e2
              have h3 := numberL_lt e3
              have h4 := numberL_lt e4
              exact ⟨⟨by dsimp only; omega, by dsimp only; omega⟩, ⟨by dsimp only; omega, by dsimp only; omega⟩, ⟨by dsimp only; omega, by dsimp only; omega⟩, ⟨by dsimp only; omega, by dsimp only; omega⟩, ⟨by dsimp only; omega, by dsimp only; omega⟩, by simp⟩
            · cases h
          · cases h
        · cases h
  · cases h
/-- What is behind the first half: the line is read, and written again. -/
def backF (s : Value) (line : ByteArray) (g : Nat) (q : Nat → Value) : Act := { tmps := #[s, .string line, .pointer (some ⟨g, 0, none⟩), q 3, q 4, q 5, q 6, q 7, q 8, q 9, q 10, q 11, q 12, q 13, q 14, q 15, q 16, q 17, q 18, q 19, q 20, q 21, q 22, q 23, q 24, q 25, q 26, q 27, q 28, q 29, q 30, q 31, q 32, q 33, q 34, q 35, q 36, q 37, q 38, q 39, q 40, q 41, q 42, q 43, q 44, q 45, q 46, q 47, q 48, q 49, q 50, q 51, q 52, q 53, q 54, q 55, q 56, q 57, q 58, q 59, q 60, q 61, q 62, q 63, q 64, q 65, q 66, q 67, q 68, q 69], defers := [] }
theorem back_tail (sv : Value) (line : ByteArray) (g : Nat) (w0 : World) (hl : line.size ≤ 40000) (rest : Code) (hr : tl1 (tl1 (tl1 (tl1 (Tryd.f4.body.getD .skip)))) = rest) (q : Nat → Value) (w : World) (hB : Below w0.heap.size w0 w) (hT : Tab w0) :
    rest.wp Tryd.prog (bodyPost Tryd.prog Tryd.f4 (fun e w' => e = .returned (.bool true) ∧ Below w0.heap.size w0 w')) (backF sv line g q) w := by
  have e := hr.symm.trans (show tl1 (tl1 (tl1 (tl1 (Tryd.f4.body.getD .skip)))) = .seq _ _ from rfl)
  subst e
  clear hr
  have hll := len_of line
  have HB := Aside0.mk hB
  have HT := Aside0.mk hT
  have HP := Aside0.mk (fun w => parse_any line w (by omega))
  unfold ParPost at HP
  clear hB hT
  unfold backF
  cases hp : parseL line.data.toList with
  | none =>
    rw [parV_none hp] at HP
    clear hp
    unfold stV stC stZ at HP
    dsimp only at HP
    go_wp2_with fail
    refine (HP.out _).mono ?_
    rintro e w1 ⟨rfl, hb1⟩
    have hB1 := HB.out.trans (hb1.mono HB.out.size)
    have HX := Aside0.mk (fun cs => hB1.alloc hB1.size (.cells cs 26))
    clear hb1 hB1
    go_wp2_with fail
    refine (wakes_true _ (HT.out.below (HX.out _))).mono ?_
    rintro e w2 ⟨rfl, hb2⟩
    have HB2 := Aside0.mk ((HX.out _).trans (hb2.mono (HX.out _).size))
    clear hb2
    go_wp2_with fail
    go_ret
    exact ⟨rfl, HB2.out⟩
  | some t =>
    rw [parV_some hp] at HP
    have HL := Aside0.mk (fun w hT => line_any t w hT (parse_StI hp (by omega)))
    unfold LinePost at HL
    rw [lineV_some (parse_line hp), tx_of] at HL
    clear hp
    obtain ⟨a0, a1, a2, a3, a4, a5, a6⟩ := t
    unfold stV stC at HP HL
    dsimp only at HP HL
    go_wp2_with fail
    refine (HP.out _).mono ?_
    rintro e w1 ⟨rfl, hb1⟩
    have hB1 := HB.out.trans (hb1.mono HB.out.size)
    have HX := Aside0.mk (fun cs => hB1.alloc hB1.size (.cells cs 26))
    clear hb1 hB1
    go_wp2_with fail
    refine (HL.out _ (HT.out.below (HX.out _))).mono ?_
    rintro e w2 ⟨rfl, hb2⟩
    have HB2 := Aside0.mk ((HX.out _).trans (hb2.mono (HX.out _).size))
    clear hb2
    go_wp2_with fail
    refine (wakes_true _ (HT.out.below HB2.out)).mono ?_
    rintro e w3 ⟨rfl, hb3⟩
    have HB3 := Aside0.mk (HB2.out.trans (hb3.mono HB2.out.size))
    clear hb3
    go_wp2_with fail
    go_ret
    exact ⟨rfl, HB3.out⟩
theorem back_tail_a (sv : Value) (line : ByteArray) (g : Nat) (w0 : World) (hl : line.size ≤ 40000) (rest : Code) (hr : tl1 (tl1 (tl1 (tl1 (Tryd.f4.body.getD .skip)))) = rest) (a : Act) (ha : a = backF sv line g (fun i => a.tmps.getD i undef)) (w : World) (hB : Below w0.heap.size w0 w) (hT : Tab w0) :
    rest.wp Tryd.prog (bodyPost Tryd.prog Tryd.f4 (fun e w' => e = .returned (.bool true) ∧ Below w0.heap.size w0 w')) a w := by
  rw [ha]
  exact back_tail sv line g w0 hl rest hr _ w hB hT
set_option maxHeartbeats 4000000 in
set_option maxRecDepth 100000 in
theorem back_any (k0 a0 p0 q0 u0 v0 : Int) (d line : ByteArray) (w : World) (hT : Tab w) (ha : -9223372036854775808 ≤ a0 ∧ a0 ≤ 9223372036854775807) (hp : -9223372036854775808 ≤ p0 ∧ p0 ≤ 9223372036854775807) (hq : -9223372036854775808 ≤ q0 ∧ q0 ≤ 9223372036854775807) (hu : -9223372036854775808 ≤ u0 ∧ u0 ≤ 9223372036854775807) (hv : -9223372036854775808 ≤ v0 ∧ v0 ≤ 9223372036854775807) :
    Calls Tryd.prog 4 #[.agg #[.int .i64 k0, .int .i64 a0, .int .i64 p0, .int .i64 q0, .int .i64 u0, .int .i64 v0, .string d], .string line] w fun e w' => e = .returned (.bool true) ∧ Below w.heap.size w w' := by
  have HX0 := Aside0.mk ((Below.refl _ w).alloc (Nat.le_refl _) (.cells #[.int .i64 k0, .int .i64 a0, .int .i64 p0, .int .i64 q0, .int .i64 u0, .int .i64 v0, .string d] 26))
  have hT1 := hT.below HX0.out
  go_enter Tryd.func4, Tryd.ntmps4
  by_cases hbig : 40000 < d.size ∨ 40000 < line.size
  · have HQ : Aside0 (decide (40000 < (d.size : Int)) = true ∨ (decide (40000 < (d.size : Int)) = false ∧ decide (40000 < (line.size : Int)) = true)) := ⟨by
      by_cases h : 40000 < d.size
      · exact .inl (decide_eq_true (by omega))
      · exact .inr ⟨decide_eq_false (by omega), decide_eq_true (by omega)⟩⟩
    clear hbig
    rcases HQ.out with z1 | ⟨z1, z2⟩
    all_goals
      go_wp2_with fail
      refine (wakes_true _ hT1).mono ?_
      rintro e w2 ⟨rfl, hb2⟩
      have HB2 := Aside0.mk (HX0.out.trans (hb2.mono HX0.out.size))
      clear hb2
      go_wp2_with fail
      go_ret
      exact ⟨rfl, HB2.out⟩
  have z1 : decide (40000 < (d.size : Int)) = false := decide_eq_false (by omega)
  have z2 : decide (40000 < (line.size : Int)) = false := decide_eq_false (by omega)
  have hll : line.size ≤ 40000 := by omega
  have hdl := len_of d
  have hI : StI ⟨k0, a0, p0, q0, u0, v0, d.data.toList⟩ := ⟨ha, hp, hq, hu, hv, by dsimp only; omega⟩
  have HL := Aside0.mk (fun w hT => line_any ⟨k0, a0, p0, q0, u0, v0, d.data.toList⟩ w hT hI)
  have hsv : stV ⟨k0, a0, p0, q0, u0, v0, d.data.toList⟩ = .agg #[.int .i64 k0, .int .i64 a0, .int .i64 p0, .int .i64 q0, .int .i64 u0, .int .i64 v0, .string d] := by unfold stV stC; dsimp only
  unfold LinePost at HL
  rw [hsv] at HL
  have HT := Aside0.mk hT
  have HI := Aside0.mk hI
  have HLL := Aside0.mk hll
  have hcut : ∀ (a : Act), True := fun _ => trivial
  clear hcut hbig hI hll hdl ha hp hq hu hv
  refine wp_seq_k (fun K1 h1 => ?_)
  have H1 := Aside0.mk h1
  clear h1
  go_wp2_with fail
  (try simp only [Exit.then])
  refine H1.out _ _ (wp_seq_k (fun K2 h2 => ?_))
  have H2 := Aside0.mk h2
  clear h2 H1
  go_wp2_with fail
  (try simp only [Exit.then])
  refine H2.out _ _ (wp_seq_k (fun K3 h3 => ?_))
  have H3 := Aside0.mk h3
  clear h3 H2
  go_wp2_with fail
  refine (HL.out _ hT1).mono ?_
  rintro e w2 ⟨rfl, hb2⟩
  have HB2 := Aside0.mk (HX0.out.trans (hb2.mono HX0.out.size))
  have k1 := blk_new w (.cells #[.int .i64 k0, .int .i64 a0, .int .i64 p0, .int .i64 q0, .int .i64 u0, .int .i64 v0, .string d] 26)
  have K1' := (hb2.block _ (blk_ltI k1)).trans k1
  obtain ⟨g, hg⟩ : ∃ g, g = w.heap.size := ⟨_, rfl⟩
  rw [← hg] at K1'
  rw [← hg]
  have HK1 := Aside0.mk K1'
  clear hb2 k1 K1' hg hT1 HL hsv
  cases hline : lineL ⟨k0, a0, p0, q0, u0, v0, d.data.toList⟩ with
  | none =>
    rw [lineV_none hline]
    clear hline
    go_wp2_with fail
    (try simp only [Exit.then])
    refine H3.out _ _ (wp_seq_k (fun K4 h4 => ?_))
    have H4 := Aside0.mk h4
    clear h4 H3
    go_wp2_with fail
    (try simp only [Exit.then])
    exact H4.out _ _ (back_tail_a _ line g w HLL.out _ rfl _ rfl _ HB2.out HT.out)
  | some L =>
    rw [lineV_some hline]
    have hL : L.length ≤ 900000 := by
      unfold lineL at hline
      split at hline
      · injection hline with hline
        rw [← hline]
        exact raw_len _ HI.out
      · cases hline
    have HP := Aside0.mk (fun w => parse_any (tx L) w (by rw [tx_size]; omega))
    rw [tx_data] at HP
    unfold ParPost at HP
    rw [parV_some (line_parse hline)] at HP
    have HS := Aside0.mk (fun w => same_any ⟨k0, a0, p0, q0, u0, v0, d.data.toList⟩ ⟨k0, a0, p0, q0, u0, v0, d.data.toList⟩ w)
    rw [sameB_true] at HS
    have hd : tx d.data.toList = d := tx_of d
    unfold stV stC at HP HS
    dsimp only at HP HS
    rw [hd] at HP HS
    clear hline hd
    go_wp2_with fail
    (try simp only [Exit.then])
    refine H3.out _ _ (wp_seq_k (fun K4 h4 => ?_))
    have H4 := Aside0.mk h4
    clear h4 H3
    go_wp2_with fail
    refine (HP.out _).mono ?_
    rintro e w3 ⟨rfl, hb3⟩
    have hB3 := HB2.out.trans (hb3.mono HB2.out.size)
    have HB3 := Aside0.mk (hB3.alloc hB3.size (.cells #[.int .i64 k0, .int .i64 a0, .int .i64 p0, .int .i64 q0, .int .i64 u0, .int .i64 v0, .string d] 26))
    have K13 := (hb3.block g (blk_ltI HK1.out)).trans HK1.out
    have K14 := (Below.heap_alloc w3 (.cells #[.int .i64 k0, .int .i64 a0, .int .i64 p0, .int .i64 q0, .int .i64 u0, .int .i64 v0, .string d] 26) g (blk_ltI K13)).trans K13
    obtain ⟨⟨c0, c1, c2, c3, c4, c5, c6⟩, _⟩ := stcells K14
    clear hb3 hB3 K13 K14
    go_wp2_with fail
    refine (HS.out _).mono ?_
    rintro e w4 ⟨rfl, hb4⟩
    have HB4 := Aside0.mk (HB3.out.trans (hb4.mono HB3.out.size))
    clear hb4 c0 c1 c2 c3 c4 c5 c6
    go_wp2_with fail
    (try simp only [Exit.then])
    exact H4.out _ _ (back_tail_a _ line g w HLL.out _ rfl _ rfl _ HB4.out HT.out)
end Go.Proofs.YtkjjjgplidompaaDoor.B
