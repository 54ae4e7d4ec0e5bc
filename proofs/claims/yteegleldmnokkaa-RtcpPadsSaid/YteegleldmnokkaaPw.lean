/-
  A message taken apart: its first part. Walk over the program.
-/
import Derived.Test.YteegleldmnokkaaWt
import Derived.Test.YteegleldmnokkaaPt
import Derived.Laws.DeepStrings4
namespace Go.Proofs.Yteegleldmnokkaa.B
open Go.RowKit Go.Proofs.YteegleldmnokkaaW.PrintWords Go.Proofs.YteegleldmnokkaaW.PrintLast Go.Proofs.YteegleldmnokkaaW.PrintMore
set_option linter.unusedVariables false
set_option linter.unusedSimpArgs false
theorem bad_any (w : World) (p : Nat) (s : ByteArray) (a : Int) (b : Bool) (h : RdIs w p 71 s a b) : Calls Try.prog 28 #[.pointer (some ⟨p, 0, none⟩)] w fun e w' => e = .returned (.bool b) ∧ w' = w := by
  have h2 := blk_cell h 2
  simp only [List.getElem?_toArray, List.getElem?_cons_zero, List.getElem?_cons_succ] at h2
  clear h
  go_enter Try.func28, Try.ntmps28
  go_wp2_with fail
  all_goals go_ret
  all_goals exact ⟨rfl, rfl⟩
/-- The reader's own row is new: what it does leaves all else. -/
theorem grown_below {w w1 w2 : World} {p : Nat} (hb : Below w.heap.size w w1) (hp : w.heap.size ≤ p) (hg : w1.grownBy w2 (some p)) : Below w.heap.size w w2 :=
  hb.grown hg hb.size (fun k hk => by have e : p = k := by injection hk
                                      omega)
def PartPost (s : ByteArray) (w : World) (e : Ending) (w' : World) : Prop := ((partErr s = 0 ∧ e = .returned (.tuple #[.agg #[.int .i64 (byteN s 0 % 32 : Nat), .int .i64 (byteN s 1 : Nat), .string (partBody s)], .int .i64 (partSize s : Nat)])) ∨ (partErr s ≠ 0 ∧ e = .panicked [faultV (partErr s)])) ∧ Below w.heap.size w w'
theorem PartPost.bad {s : ByteArray} {w w' : World} {n : Int} (h : partErr s = n) (h0 : n ≠ 0) (hb : Below w.heap.size w w') : PartPost s w (.panicked [faultV n]) w' := ⟨.inr ⟨by rw [h]; exact h0, by rw [h]⟩, hb⟩
theorem some_ne_ {a b : Nat} (h : a ≠ b) : some a ≠ some b := fun e => h (Option.some.inj e)
set_option maxHeartbeats 8000000 in
set_option maxRecDepth 100000 in
theorem part_long (s : ByteArray) (w : World) (hs : 4 ≤ s.size) (hs2 : s.size ≤ 1000000) :
    Calls Try.prog 23 #[.string s] w (PartPost s w) := by
  have hb0 := byteN_lt s 0
  have hb1 := byteN_lt s 1
  have hb2 := byteN_lt s 2
  have hb3 := byteN_lt s 3
  obtain ⟨V0, hV0⟩ : ∃ V, V = byteN s 0 / 64 % 4 := ⟨_, rfl⟩
  obtain ⟨V1, hV1⟩ : ∃ V, V = byteN s 0 / 32 % 2 := ⟨_, rfl⟩
  obtain ⟨V2, hV2⟩ : ∃ V, V = byteN s 0 % 32 := ⟨_, rfl⟩
  obtain ⟨V3, hV3⟩ : ∃ V, V = byteN s 1 := ⟨_, rfl⟩
  obtain ⟨V4, hV4⟩ : ∃ V, V = byteN s 2 * 256 + byteN s 3 := ⟨_, rfl⟩
  have v0 : V0 ≤ 3 := by omega
  have v1 : V1 ≤ 1 := by omega
  have v2 : V2 ≤ 31 := by omega
  have v3 : V3 ≤ 255 := by omega
  have v4 : V4 ≤ 65535 := by omega
  have H0 : Aside0 (rdBits s 0 2 = V0) := ⟨by rw [rd_mark, hV0]⟩
  have H1 : Aside0 (rdBits s 2 1 = V1) := ⟨by rw [rd_pad, hV1]⟩
  have H2 : Aside0 (rdBits s 3 5 = V2) := ⟨by rw [rd_count, hV2]⟩
  have H3 : Aside0 (rdBits s 8 8 = V3) := ⟨by rw [rd_type, hV3]⟩
  have H4 : Aside0 (rdBits s 16 16 = V4) := ⟨by rw [rd_words, hV4]⟩
  have HV := Aside0.mk (And.intro hV0 (And.intro hV1 (And.intro hV2 (And.intro hV3 hV4))))
  clear hV0 hV1 hV2 hV3 hV4 hb0 hb1 hb2 hb3
  go_enter Try.func23, Try.ntmps23
  go_wp2_with fail
  refine (read_any _ s).mono ?_
  rintro e w1 ⟨rfl, rfl⟩
  have hr0 : RdIs ((w.alloc (.cells #[.int .i64 0, .int .i64 0, .string { data := #[] }] 40)).alloc (.cells #[.string s, .int .i64 0, .bool false] 71)) (w.heap.size + 1) 71 s ((0 : Nat) : Int) false := by
    have h := blk_new (w.alloc (.cells #[.int .i64 0, .int .i64 0, .string { data := #[] }] 40)) (.cells #[.string s, .int .i64 0, .bool false] 71)
    rw [show (w.alloc (.cells #[.int .i64 0, .int .i64 0, .string { data := #[] }] 40)).heap.size = w.heap.size + 1 by simp] at h
    exact h
  have hB0 : Below w.heap.size w ((w.alloc (.cells #[.int .i64 0, .int .i64 0, .string { data := #[] }] 40)).alloc (.cells #[.string s, .int .i64 0, .bool false] 71)) := ((Below.refl _ _).alloc (Nat.le_refl _) _).alloc (by simp) _
  have hRB : ((w.alloc (.cells #[.int .i64 0, .int .i64 0, .string { data := #[] }] 40)).alloc (.cells #[.string s, .int .i64 0, .bool false] 71)).heap[w.heap.size]? = some (.cells #[.int .i64 0, .int .i64 0, .string { data := #[] }] 40 (0, 0)) := (Below.heap_alloc _ _ _ (by simp)).trans (blk_new w _)
  obtain ⟨p, hp⟩ : ∃ p, p = w.heap.size + 1 := ⟨_, rfl⟩
  obtain ⟨rb, hrb⟩ : ∃ p, p = w.heap.size := ⟨_, rfl⟩
  rw [show (w.alloc (.cells #[.int .i64 0, .int .i64 0, .string { data := #[] }] 40)).heap.size = p by simp [hp]]
  rw [← hp] at hr0
  rw [← hrb] at hRB ⊢
  generalize (w.alloc (.cells #[.int .i64 0, .int .i64 0, .string { data := #[] }] 40)).alloc (.cells #[.string s, .int .i64 0, .bool false] 71) = w1 at *
  have hpw : w.heap.size ≤ p := by omega
  have hrp : rb < p := by omega
  have hrw : w.heap.size ≤ rb := by omega
  have R1 := Aside0.mk hr0
  have B1 := Aside0.mk hB0
  have Q1 := Aside0.mk hRB
  clear hp hrb hr0 hB0 hRB
  go_wp2_with fail
  refine (get_good w1 p s 0 2 R1.out (by omega) (by omega) (by omega) (by omega)).mono ?_
  rintro e w2 ⟨rfl, hr, hg⟩
  have R2 : Aside0 (RdIs w2 p 71 s ((2 : Nat) : Int) false) := ⟨by simpa using hr⟩
  have B2 := Aside0.mk (grown_below B1.out hpw hg)
  have Q2 := Aside0.mk (blk_grown Q1.out hg (some_ne_ (by omega)))
  clear hr hg
  rw [H0.out]
  go_wp2_with fail
  refine (get_good w2 p s 2 1 R2.out (by omega) (by omega) (by omega) (by omega)).mono ?_
  rintro e w3 ⟨rfl, hr, hg⟩
  have R3 : Aside0 (RdIs w3 p 71 s ((3 : Nat) : Int) false) := ⟨by simpa using hr⟩
  have B3 := Aside0.mk (grown_below B2.out hpw hg)
  have Q3 := Aside0.mk (blk_grown Q2.out hg (some_ne_ (by omega)))
  clear hr hg
  rw [H1.out]
  go_wp2_with fail
  refine (get_good w3 p s 3 5 R3.out (by omega) (by omega) (by omega) (by omega)).mono ?_
  rintro e w4 ⟨rfl, hr, hg⟩
  have R4 : Aside0 (RdIs w4 p 71 s ((8 : Nat) : Int) false) := ⟨by simpa using hr⟩
  have B4 := Aside0.mk (grown_below B3.out hpw hg)
  have Q4 := Aside0.mk (blk_grown Q3.out hg (some_ne_ (by omega)))
  clear hr hg
  rw [H2.out]
  go_wp2_with fail
  refine (get_good w4 p s 8 8 R4.out (by omega) (by omega) (by omega) (by omega)).mono ?_
  rintro e w5 ⟨rfl, hr, hg⟩
  have R5 : Aside0 (RdIs w5 p 71 s ((16 : Nat) : Int) false) := ⟨by simpa using hr⟩
  have B5 := Aside0.mk (grown_below B4.out hpw hg)
  have Q5 := Aside0.mk (blk_grown Q4.out hg (some_ne_ (by omega)))
  clear hr hg
  rw [H3.out]
  go_wp2_with fail
  have hq0 : (w5.alloc (.cells #[.int .i64 (V2 : Int), .int .i64 (V3 : Int), .string { data := #[] }] 40)).heap[w5.heap.size]? = some (.cells #[.int .i64 (V2 : Int), .int .i64 (V3 : Int), .string { data := #[] }] 40 (0, 0)) := blk_new w5 _
  have hlp := blk_lt R5.out
  have hlr := blk_lt Q5.out
  have R6 : Aside0 (RdIs (w5.alloc (.cells #[.int .i64 (V2 : Int), .int .i64 (V3 : Int), .string { data := #[] }] 40)) p 71 s ((16 : Nat) : Int) false) := ⟨(Below.heap_alloc w5 _ p hlp).trans R5.out⟩
  have B6 := Aside0.mk (B5.out.alloc (o := .cells #[.int .i64 (V2 : Int), .int .i64 (V3 : Int), .string { data := #[] }] 40) B5.out.size)
  have Q6 : Aside0 ((w5.alloc (.cells #[.int .i64 (V2 : Int), .int .i64 (V3 : Int), .string { data := #[] }] 40)).heap[rb]? = _) := ⟨(Below.heap_alloc w5 _ rb hlr).trans Q5.out⟩
  obtain ⟨q, hq⟩ : ∃ q, q = w5.heap.size := ⟨_, rfl⟩
  have hqw : w.heap.size ≤ q := by have := B5.out.size; omega
  rw [← hq] at hq0 hlp hlr ⊢
  have P6 := Aside0.mk hq0
  clear hq hq0
  generalize w5.alloc (.cells #[.int .i64 (V2 : Int), .int .i64 (V3 : Int), .string { data := #[] }] 40) = w6 at *
  refine (get_good w6 p s 16 16 R6.out (by omega) (by omega) (by omega) (by omega)).mono ?_
  rintro e w7 ⟨rfl, hr, hg⟩
  have R7 : Aside0 (RdIs w7 p 71 s ((32 : Nat) : Int) false) := ⟨by simpa using hr⟩
  have B7 := Aside0.mk (grown_below B6.out hpw hg)
  have Q7 := Aside0.mk (blk_grown Q6.out hg (some_ne_ (by omega)))
  have P7 := Aside0.mk (blk_grown P6.out hg (some_ne_ (by omega)))
  clear hr hg
  rw [H4.out]
  have x0 := blk_cell P7.out 0
  have x1 := blk_cell P7.out 1
  have x2 := blk_cell P7.out 2
  have x2f := blk_frozen P7.out 2
  have z0 := blk_cell Q7.out 0
  have z1 := blk_cell Q7.out 1
  have z2 := blk_cell Q7.out 2
  have z0f := blk_frozen Q7.out 0
  have z1f := blk_frozen Q7.out 1
  have z2f := blk_frozen Q7.out 2
  simp only [List.getElem?_toArray, List.getElem?_cons_zero, List.getElem?_cons_succ] at x0 x1 x2 z0 z1 z2
  go_wp2_with fail
  refine (bad_any w7 p s _ false R7.out).mono ?_
  rintro e w8 ⟨rfl, hw8⟩
  obtain rfl := hw8.symm
  have hPS : partSize s = 4 + 4 * V4 := by rw [HV.out.2.2.2.2]; rfl
  have HPS := Aside0.mk hPS
  clear hPS
  by_cases h1 : 4 + 4 * V4 ≤ s.size
  · have d1 : decide (4 + 4 * (V4 : Int) ≤ (s.size : Int)) = true := decide_eq_true (by omega)
    go_wp2_with fail
    refine (want_yes 60 _).mono ?_
    rintro e w8 ⟨rfl, hw8⟩
    obtain rfl := hw8.symm
    by_cases h2 : V0 = 2
    · subst h2
      go_wp2_with fail
      refine (want_yes 70 _).mono ?_
      rintro e w8 ⟨rfl, hw8⟩
      obtain rfl := hw8.symm
      by_cases h3 : 192 ≤ V3 ∧ V3 ≤ 223
      · obtain ⟨h3, h4⟩ := h3
        have d3 : decide ((192 : Int) ≤ (V3 : Int)) = true := decide_eq_true (by omega)
        have d4 : decide ((V3 : Int) ≤ 223) = true := decide_eq_true (by omega)
        have d3' : decide (192 ≤ V3) = true := decide_eq_true h3
        have d4' : decide (V3 ≤ 223) = true := decide_eq_true h4
        have i4 : (4 : Int) ≤ 4 + 4 * (V4 : Int) := by omega
        have i5 : (4 + 4 * (V4 : Int)).toNat = 4 + 4 * V4 := by omega
        have hsl : ∀ w : World, (Instr.slice 9 (.string s) (some (.int .i64 4)) (some (.int .i64 (4 + 4 * (V4 : Int)))) none).run Try.prog w = .ok (.string (s.extract 4 (4 + 4 * V4))) w := by
          intro w
          have h := run_slice_string_if (P := Try.prog) (w := w) 9 s .i64 .i64 4 (4 + 4 * (V4 : Int)) Try.underlying9
          rw [if_pos ⟨by omega, by omega⟩, if_pos ⟨by omega, by omega⟩, i5] at h
          exact h
        go_wp2_with fail
        refine (want_yes 81 _).mono ?_
        rintro e w8 ⟨rfl, hw8⟩
        obtain rfl := hw8.symm
        by_cases h5 : V1 = 0
        · subst h5
          have HE := Aside0.mk (show partErr s = 0 by
            unfold partErr
            rw [if_neg (by omega), if_neg (by rw [HPS.out]; omega), if_neg (by rw [← HV.out.1]; simp), if_neg (by rw [← HV.out.2.2.2.1]; omega), if_neg (by rw [← HV.out.2.1]; simp)])
          have HPB := Aside0.mk (show partBody s = s.extract 4 (4 + 4 * V4) by
            unfold partBody
            rw [if_neg (by rw [← HV.out.2.1]; simp), HPS.out])
          go_wp2_with fail
          obtain ⟨BD, hBD⟩ : ∃ B, B = s.extract 4 (4 + 4 * V4) := ⟨_, rfl⟩
          rw [← hBD] at HPB ⊢
          have k0 := blk_far Q7.out (p := ⟨q, 2, none⟩) (by show rb ≠ q; omega) (.string BD)
          have k1 := blk_set k0 0 (.int .i64 (V2 : Int))
          have k2 := blk_set k1 1 (.int .i64 (V3 : Int))
          have k3 := blk_set k2 2 (.string BD)
          simp only [List.setIfInBounds_toArray, List.set_cons_zero, List.set_cons_succ] at k3
          have kB := ((((B7.out.setCell (p := ⟨q, 2, none⟩) hqw (.string BD)).setCell (p := ⟨rb, 0, none⟩) hrw (.int .i64 (V2 : Int))).setCell (p := ⟨rb, 1, none⟩) hrw (.int .i64 (V3 : Int))).setCell (p := ⟨rb, 2, none⟩) hrw (.string BD))
          generalize (((w7.setCell ⟨q, 2, none⟩ (.string BD)).setCell ⟨rb, 0, none⟩ (.int .i64 (V2 : Int))).setCell ⟨rb, 1, none⟩ (.int .i64 (V3 : Int))).setCell ⟨rb, 2, none⟩ (.string BD) = W9 at *
          have m0 := blk_cell k3 0
          have m1 := blk_cell k3 1
          have m2 := blk_cell k3 2
          simp only [List.getElem?_toArray, List.getElem?_cons_zero, List.getElem?_cons_succ] at m0 m1 m2
          refine bodyPost_ret (v := .tuple #[.agg #[.int .i64 (V2 : Int), .int .i64 (V3 : Int), .string BD], .int .i64 (4 + 4 * (V4 : Int))]) (by simp [results, Try.results23, go_sem, m0, m1, m2]) rfl ?_
          refine ⟨.inl ⟨HE.out, ?_⟩, kB⟩
          rw [HPB.out, HPS.out, HV.out.2.2.1, HV.out.2.2.2.1]
          simp
        · obtain rfl : V1 = 1 := by omega
          have hpad : padN s = if 4 < 4 + 4 * V4 then byteN s (4 + 4 * V4 - 1) else 0 := by unfold padN; rw [HPS.out]
          by_cases h6 : V4 = 0
          · subst h6
            rw [if_neg (by omega)] at hpad
            have HPD := Aside0.mk hpad
            have HE := Aside0.mk (show partErr s = 91 by
              unfold partErr
              rw [if_neg (by omega), if_neg (by rw [HPS.out]; omega), if_neg (by rw [← HV.out.1]; simp), if_neg (by rw [← HV.out.2.2.2.1]; omega), if_pos]
              refine ⟨HV.out.2.1.symm, fun h => ?_⟩
              rw [HPS.out] at h
              rw [HPD.out] at h; omega)
            clear hpad
            by_cases h7 : s.size = 4
            · have e1 : ((4 : Int) == (s.size : Int)) = true := by rw [h7]; rfl
              have e2 : decide ((4 : Int) ≤ (s.size : Int)) = true := decide_eq_true (by omega)
              clear h7
              go_wp2_with fail
              refine (want_no 91 _).mono ?_
              rintro e w8 ⟨rfl, hw8⟩
              obtain rfl := hw8.symm
              go_wp2_with fail
              exact ⟨rfl, PartPost.bad HE.out (by decide) (B7.out.setCell (p := ⟨q, 2, none⟩) hqw _)⟩
            · have e1 : ((4 : Int) == (s.size : Int)) = false := beq_eq_false_iff_ne.2 (by omega)
              go_wp2_with fail
              refine (want_no 91 _).mono ?_
              rintro e w8 ⟨rfl, hw8⟩
              obtain rfl := hw8.symm
              go_wp2_with fail
              exact ⟨rfl, PartPost.bad HE.out (by decide) (B7.out.setCell (p := ⟨q, 2, none⟩) hqw _)⟩
          · rw [if_pos (by omega)] at hpad
            obtain ⟨BN, hBN⟩ : ∃ B, B = byteN s (4 + 4 * V4 - 1) := ⟨_, rfl⟩
            rw [← hBN] at hpad
            have HPD := Aside0.mk hpad
            have hlt : 3 + 4 * V4 < s.size := by omega
            have hby : ((s[3 + 4 * V4]'hlt).toNat : Int) = (BN : Int) := by
              have h := bt_at s ((3 + 4 * V4 : Nat) : Int) (by rw [Int.toNat_natCast]; exact hlt)
              rw [byteN_bt] at h
              rw [hBN, show 4 + 4 * V4 - 1 = 3 + 4 * V4 by omega, ← h]
              simp only [Int.toNat_natCast]
            have hbl : BN < 256 := by rw [hBN]; exact byteN_lt _ _
            have hbl2 : (BN : Int) ≤ 255 := by omega
            clear hBN hpad
            by_cases h7 : 4 + 4 * V4 = s.size
            · have hbz : (s.extract 4 (4 + 4 * V4)).size = 4 * V4 := by rw [ByteArray.size_extract]; omega
              have hz : s.size = 4 + 4 * V4 := h7.symm
              clear h7
              have f0 : (0 : Int) ≤ (BN : Int) := by omega
              by_cases g1 : 4 ≤ BN
              · have d5 : decide ((4 : Int) ≤ (BN : Int)) = true := decide_eq_true (by omega)
                have d5' : decide (4 ≤ BN) = true := decide_eq_true g1
                by_cases g2 : BN % 4 = 0
                · have d6 : (((BN : Int) % 4) == 0) = true := by simp; omega
                  by_cases g3 : BN ≤ 4 * V4
                  · have d7 : decide ((BN : Int) ≤ 4 * (V4 : Int)) = true := decide_eq_true (by omega)
                    have d7' : decide (BN ≤ 4 * V4) = true := decide_eq_true g3
                    go_wp2_with fail
                    refine (want_yes 91 _).mono ?_
                    rintro e w8 ⟨rfl, hw8⟩
                    obtain rfl := hw8.symm
                    go_wp2_with fail
                    have HE := Aside0.mk (show partErr s = 0 by
                      unfold partErr
                      rw [if_neg (by omega), if_neg (by rw [HPS.out]; omega), if_neg (by rw [← HV.out.1]; simp), if_neg (by rw [← HV.out.2.2.2.1]; omega), if_neg (by rw [HPS.out, HPD.out]; intro h; exact h.2 ⟨by omega, g1, g2, by omega⟩)])
                    have HPB := Aside0.mk (show partBody s = (s.extract 4 (4 + 4 * V4)).extract 0 (4 * V4 - BN) by
                      unfold partBody
                      rw [if_pos HV.out.2.1.symm, HPS.out, HPD.out, ByteArray.extract_extract]
                      congr 1
                      omega)
                    obtain ⟨BD, hBD⟩ : ∃ B, B = (s.extract 4 (4 + 4 * V4)).extract 0 (4 * V4 - BN) := ⟨_, rfl⟩
                    rw [← hBD] at HPB ⊢
                    have k00 := blk_far Q7.out (p := ⟨q, 2, none⟩) (by show rb ≠ q; omega) (.string (s.extract 4 (4 + 4 * V4)))
                    have k0 := blk_far k00 (p := ⟨q, 2, none⟩) (by show rb ≠ q; omega) (.string BD)
                    have k1 := blk_set k0 0 (.int .i64 (V2 : Int))
                    have k2 := blk_set k1 1 (.int .i64 (V3 : Int))
                    have k3 := blk_set k2 2 (.string BD)
                    simp only [List.setIfInBounds_toArray, List.set_cons_zero, List.set_cons_succ] at k3
                    have kB := (((((B7.out.setCell (p := ⟨q, 2, none⟩) hqw (.string (s.extract 4 (4 + 4 * V4)))).setCell (p := ⟨q, 2, none⟩) hqw (.string BD)).setCell (p := ⟨rb, 0, none⟩) hrw (.int .i64 (V2 : Int))).setCell (p := ⟨rb, 1, none⟩) hrw (.int .i64 (V3 : Int))).setCell (p := ⟨rb, 2, none⟩) hrw (.string BD))
                    generalize ((((w7.setCell ⟨q, 2, none⟩ (.string (s.extract 4 (4 + 4 * V4)))).setCell ⟨q, 2, none⟩ (.string BD)).setCell ⟨rb, 0, none⟩ (.int .i64 (V2 : Int))).setCell ⟨rb, 1, none⟩ (.int .i64 (V3 : Int))).setCell ⟨rb, 2, none⟩ (.string BD) = W9 at *
                    have m0 := blk_cell k3 0
                    have m1 := blk_cell k3 1
                    have m2 := blk_cell k3 2
                    simp only [List.getElem?_toArray, List.getElem?_cons_zero, List.getElem?_cons_succ] at m0 m1 m2
                    refine bodyPost_ret (v := .tuple #[.agg #[.int .i64 (V2 : Int), .int .i64 (V3 : Int), .string BD], .int .i64 (4 + 4 * (V4 : Int))]) (by simp [results, Try.results23, go_sem, m0, m1, m2]) rfl ?_
                    refine ⟨.inl ⟨HE.out, ?_⟩, kB⟩
                    rw [HPB.out, HPS.out, HV.out.2.2.1, HV.out.2.2.2.1]
                    simp
                  · have d7 : decide ((BN : Int) ≤ 4 * (V4 : Int)) = false := decide_eq_false (by omega)
                    have d7' : decide (BN ≤ 4 * V4) = false := decide_eq_false g3
                    have HE := Aside0.mk (show partErr s = 91 by
                      unfold partErr
                      rw [if_neg (by omega), if_neg (by rw [HPS.out]; omega), if_neg (by rw [← HV.out.1]; simp), if_neg (by rw [← HV.out.2.2.2.1]; omega), if_pos]
                      refine ⟨HV.out.2.1.symm, fun h => ?_⟩
                      rw [HPS.out, HPD.out] at h
                      omega)
                    go_wp2_with fail
                    refine (want_no 91 _).mono ?_
                    rintro e w8 ⟨rfl, hw8⟩
                    obtain rfl := hw8.symm
                    go_wp2_with fail
                    exact ⟨rfl, PartPost.bad HE.out (by decide) (B7.out.setCell (p := ⟨q, 2, none⟩) hqw _)⟩
                · have d6 : (((BN : Int) % 4) == 0) = false := beq_eq_false_iff_ne.2 (by omega)
                  have HE := Aside0.mk (show partErr s = 91 by
                    unfold partErr
                    rw [if_neg (by omega), if_neg (by rw [HPS.out]; omega), if_neg (by rw [← HV.out.1]; simp), if_neg (by rw [← HV.out.2.2.2.1]; omega), if_pos]
                    refine ⟨HV.out.2.1.symm, fun h => ?_⟩
                    rw [HPS.out, HPD.out] at h
                    omega)
                  go_wp2_with fail
                  refine (want_no 91 _).mono ?_
                  rintro e w8 ⟨rfl, hw8⟩
                  obtain rfl := hw8.symm
                  go_wp2_with fail
                  exact ⟨rfl, PartPost.bad HE.out (by decide) (B7.out.setCell (p := ⟨q, 2, none⟩) hqw _)⟩
              · have d5 : decide ((4 : Int) ≤ (BN : Int)) = false := decide_eq_false (by omega)
                have d5' : decide (4 ≤ BN) = false := decide_eq_false g1
                have HE := Aside0.mk (show partErr s = 91 by
                  unfold partErr
                  rw [if_neg (by omega), if_neg (by rw [HPS.out]; omega), if_neg (by rw [← HV.out.1]; simp), if_neg (by rw [← HV.out.2.2.2.1]; omega), if_pos]
                  refine ⟨HV.out.2.1.symm, fun h => ?_⟩
                  rw [HPS.out, HPD.out] at h
                  omega)
                go_wp2_with fail
                refine (want_no 91 _).mono ?_
                rintro e w8 ⟨rfl, hw8⟩
                obtain rfl := hw8.symm
                go_wp2_with fail
                exact ⟨rfl, PartPost.bad HE.out (by decide) (B7.out.setCell (p := ⟨q, 2, none⟩) hqw _)⟩
            · have e1 : ((4 + 4 * (V4 : Int)) == (s.size : Int)) = false := beq_eq_false_iff_ne.2 (by omega)
              have HE := Aside0.mk (show partErr s = 91 by
                unfold partErr
                rw [if_neg (by omega), if_neg (by rw [HPS.out]; omega), if_neg (by rw [← HV.out.1]; simp), if_neg (by rw [← HV.out.2.2.2.1]; omega), if_pos]
                refine ⟨HV.out.2.1.symm, fun h => ?_⟩
                rw [HPS.out] at h
                omega)
              go_wp2_with fail
              refine (want_no 91 _).mono ?_
              rintro e w8 ⟨rfl, hw8⟩
              obtain rfl := hw8.symm
              go_wp2_with fail
              exact ⟨rfl, PartPost.bad HE.out (by decide) (B7.out.setCell (p := ⟨q, 2, none⟩) hqw _)⟩
      · have HE := Aside0.mk (show partErr s = 81 by
          unfold partErr
          rw [if_neg (by omega), if_neg (by rw [HPS.out]; omega), if_neg (by rw [← HV.out.1]; simp), if_pos (by rw [← HV.out.2.2.2.1]; omega)])
        by_cases h4 : 192 ≤ V3
        · have d3 : decide ((192 : Int) ≤ (V3 : Int)) = true := decide_eq_true (by omega)
          have d4 : decide ((V3 : Int) ≤ 223) = false := decide_eq_false (by omega)
          have d3' : decide (192 ≤ V3) = true := decide_eq_true h4
          have d4' : decide (V3 ≤ 223) = false := decide_eq_false (by omega)
          clear h3
          go_wp2_with fail
          refine (want_no 81 _).mono ?_
          rintro e w8 ⟨rfl, hw8⟩
          obtain rfl := hw8.symm
          go_wp2_with fail
          exact ⟨rfl, PartPost.bad HE.out (by decide) B7.out⟩
        · have d3 : decide ((192 : Int) ≤ (V3 : Int)) = false := decide_eq_false (by omega)
          have d3' : decide (192 ≤ V3) = false := decide_eq_false h4
          clear h3
          go_wp2_with fail
          refine (want_no 81 _).mono ?_
          rintro e w8 ⟨rfl, hw8⟩
          obtain rfl := hw8.symm
          go_wp2_with fail
          exact ⟨rfl, PartPost.bad HE.out (by decide) B7.out⟩
    · have d2 : ((V0 : Int) == 2) = false := beq_eq_false_iff_ne.2 (by omega)
      have HE := Aside0.mk (show partErr s = 70 by
        unfold partErr
        rw [if_neg (by omega), if_neg (by rw [HPS.out]; omega), if_pos (by rw [← HV.out.1]; exact h2)])
      go_wp2_with fail
      refine (want_no 70 _).mono ?_
      rintro e w8 ⟨rfl, hw8⟩
      obtain rfl := hw8.symm
      go_wp2_with fail
      exact ⟨rfl, PartPost.bad HE.out (by decide) B7.out⟩
  · have d1 : decide (4 + 4 * (V4 : Int) ≤ (s.size : Int)) = false := decide_eq_false (by omega)
    have HE := Aside0.mk (show partErr s = 60 by
      unfold partErr
      rw [if_neg (by omega), if_pos (by rw [HPS.out]; omega)])
    go_wp2_with fail
    refine (want_no 60 _).mono ?_
    rintro e w8 ⟨rfl, hw8⟩
    obtain rfl := hw8.symm
    go_wp2_with fail
    exact ⟨rfl, PartPost.bad HE.out (by decide) B7.out⟩
end Go.Proofs.Yteegleldmnokkaa.B
