/-
  The way with one queue: the law of the order. Walk over the program.
-/
import Derived.Test.YtaghgjmcjmjfiaaLx
namespace Go.Proofs.Ytaghgjmcjmjfiaa.B
open Go.RowKit Go.Proofs.YtaghgjmcjmjfiaaW.PrintWords Go.Proofs.YtaghgjmcjmjfiaaW.PrintLast Go.Proofs.YtaghgjmcjmjfiaaW.PrintMore
set_option linter.unusedVariables false
set_option linter.unusedSimpArgs false
def OrRel (wa : World) (g n1 n2 : Nat) (r d s : Int) (ln : Nat) (v11 v12 v14 : Value) (wr : World) : Prop :=
  ∃ (i : Nat) (a : Int) (ins : List Int) (A : Option Addr) (c : Nat) (y : Wy), v11 = .int .i64 a ∧ v12 = .slice A i c ∧ v14 = .int .i64 (i : Int) ∧ i ≤ n1 ∧ i ≤ n2 ∧ i ≤ 200 ∧ Aside0 (WyRun wa wr g y) ∧ Aside0 (OrIs r d s ln i a ins y) ∧ Aside0 (Row wr wa.heap.size (.slice A i c) ins)
def OrRel2 (w5 : World) (L : List Cmt) (v13 v16 v17 : Value) (wr : World) : Prop :=
  ∃ (i : Nat) (last : Int), v13 = .int .i64 (i : Int) ∧ v16 = .int .i64 last ∧ v17 = .int .i64 (i : Int) ∧ i ≤ L.length ∧ (∀ e, L[i]? = some e → last < e.1) ∧ Aside0 (Below w5.heap.size w5 wr)
theorem i64w (n : Int) (h : -9223372036854775808 ≤ n ∧ n ≤ 9223372036854775807) : IntKind.i64.wrap n = n := by rw [IntKind.wrap_i64]; omega
set_option maxRecDepth 100000 in
set_option maxHeartbeats 8000000 in
theorem order_good (rate delay skew : Int) (ln : Nat) (A1 : Option Addr) (c1 : Nat) (sz : List Int) (A2 : Option Addr) (c2 : Nat) (gp : List Int) (w : World) (h0 : I64 rate) (h3 : I64 skew) (hG : goodLk rate delay (ln : Int) skew = true)
    (hC1 : (Kd.int .u16).C w A1 sz.length sz) (hw1 : ∀ x ∈ sz, U16 x) (hC2 : (Kd.int .u16).C w A2 gp.length gp) (hw2 : ∀ x ∈ gp, U16 x) (hm1 : sz.length ≤ maxLen) (hm2 : gp.length ≤ maxLen) :
    Calls Try.prog 3 #[.agg #[.int .i64 rate, .int .i64 delay, .int .i64 (ln : Int), .int .i64 skew], .slice A1 sz.length c1, .slice A2 gp.length c2] w fun e w' => e = .returned (.bool true) ∧ Below w.heap.size w w' := by
  have hgg := hG
  rw [← goodLk_eq rate delay (ln : Int) skew h3] at hgg
  simp only [Bool.and_eq_true, decide_eq_true_eq] at hgg
  obtain ⟨⟨⟨⟨⟨⟨⟨hrb, _⟩, hd0⟩, hd1⟩, _⟩, hln⟩, hk0⟩, hk1⟩ := hgg
  have hln' : ln ≤ 1000 := by omega
  have CG := Aside0.mk (fun w0 w' hB => new_run (w0 := w0) (w := w') rate delay (ln : Int) skew h3 hB hG)
  have CR := Aside0.mk (fun w' => rgood_any rate delay (ln : Int) skew h3 w')
  rw [hG] at CR
  obtain ⟨n1, hn1⟩ : ∃ n, n = sz.length := ⟨_, rfl⟩
  obtain ⟨n2, hn2⟩ : ∃ n, n = gp.length := ⟨_, rfl⟩
  rw [← hn1] at hC1 hm1 ⊢
  rw [← hn2] at hC2 hm2 ⊢
  have HC1 := Aside0.mk hC1
  have HC2 := Aside0.mk hC2
  have HW1 := Aside0.mk hw1
  have HW2 := Aside0.mk hw2
  have HN1 := Aside0.mk hn1
  have HN2 := Aside0.mk hn2
  have H0 := Aside0.mk h0
  clear hm1 hm2
  clear hC1 hC2 hw1 hw2 hn1 hn2 hG h3 h0
  go_enter Try.func3, Try.ntmps3
  go_wp2_with fail
  have hB0 := (Below.refl w.heap.size w).alloc (Nat.le_refl _) (.cells #[.int .i64 rate, .int .i64 delay, .int .i64 (ln : Int), .int .i64 skew] 23)
  have E0 := blk_new w (.cells #[.int .i64 rate, .int .i64 delay, .int .i64 (ln : Int), .int .i64 skew] 23)
  refine (CR.out _).mono ?_
  rintro e wa ⟨rfl, hb⟩
  have E1 : Aside0 (wa.heap[w.heap.size]? = _) := ⟨(hb.block _ (blk_lt E0)).trans E0⟩
  have HB0 := Aside0.mk (hB0.trans (hb.mono hB0.size))
  have x0 := blk_cell E1.out 0
  have x1 := blk_cell E1.out 1
  have x2 := blk_cell E1.out 2
  have x3 := blk_cell E1.out 3
  simp only [List.getElem?_toArray, List.getElem?_cons_zero, List.getElem?_cons_succ] at x0 x1 x2 x3
  obtain ⟨lb, hlb⟩ : ∃ b, b = w.heap.size := ⟨_, rfl⟩
  rw [← hlb] at E1 x0 x1 x2 x3 ⊢
  clear E0 hb hB0 hlb
  go_wp2_with fail
  refine (CG.out wa _ (Below.refl _ _)).mono ?_
  rintro e w1 ⟨g, rfl, hW⟩
  have H1 := Aside0.mk hW
  clear hW x0 x1 x2 x3
  go_wp2_with fail
  go_loopw [11, 12, 14] (fun v11 v12 v14 wr => OrRel wa g n1 n2 rate delay skew ln v11 v12 v14 wr) (fun _ _ v _ => 200 - (intOf v).toNat)
  case atStart => exact ⟨0, 0, [], none, 0, _, rfl, rfl, rfl, by omega, by omega, by omega, H1, ⟨or_made _ _ _ _⟩, ⟨Kd.R_nil _ _ _ _ _⟩⟩
  case round =>
    obtain ⟨i, a, ins, A, c, y, rfl, rfl, rfl, hi1, hi2, hi3, hW, hI, hU⟩ := hrel
    by_cases hgo : i < n1 ∧ i < n2 ∧ i < 200
    · obtain ⟨hlt1, hlt2, hlt3⟩ := hgo
      have k1 : decide ((i : Int) < (n1 : Int)) = true := by simp; omega
      have k2 : decide ((i : Int) < (n2 : Int)) = true := by simp; omega
      have k3 : decide ((i : Int) < 200) = true := by simp; omega
      have hBw : Below w.heap.size w wr := HB0.out.trans (hW.out.b.mono HB0.out.size)
      obtain ⟨ad1, rfl, t1⟩ := Kd.at_int (Kd.C_below HC1.out hBw) (i : Int) (by omega) (by omega)
      obtain ⟨ad2, rfl, t2⟩ := Kd.at_int (Kd.C_below HC2.out hBw) (i : Int) (by omega) (by omega)
      have u1 := HW1.out _ (rd_mem sz i (by rw [← HN1.out]; exact hlt1))
      have u2 := HW2.out _ (rd_mem gp i (by rw [← HN2.out]; exact hlt2))
      obtain ⟨u1a, u1b⟩ := u1
      obtain ⟨u2a, u2b⟩ := u2
      have ha0 := hI.out.a0
      have ha1 := hI.out.a1
      generalize rd sz (i : Int) = X at *
      generalize rd gp (i : Int) = G at *
      rw [Int.toNat_natCast] at t1 t2
      clear hBw
      go_wp2_with fail
      refine (or_in (X % 1501) G hW.out hU.out hI.out hlt3 hrb H0.out (by omega) (by omega) u2a u2b hd0 hd1 hln' hk0 hk1).mono ?_
      rintro e w3 ⟨rfl, y', hW3, hI3, hU3⟩
      have HW3 := Aside0.mk hW3
      have HI3 := Aside0.mk hI3
      have HU3 := Aside0.mk hU3
      have hil := Aside0.mk hI.out.ilen
      clear hW3 hI3 hU3 hW hI hU t1 t2
      go_wp2_with (at_builtin; refine Kd.R_append (Kd.int .i64) (w0 := w3) wa.heap.size (by rfl) (.tmp 77) (.tmp 79) 31 2 (.int .i64 0) 8 rfl Try.underlying31 (by kernel_rfl) rfl (by decide) (by decide) (.slice A i c) ins (a + G) _ (fun _ => True) (fun _ => False) rfl rfl rfl (fun _ hk => hk.elim) (fun _ _ => trivial) HU3.out (Below.refl _ _) HW3.out.b.size (by have := hil.out; omega) ?_; intro v1 w5 hR5 hB5 hG5 hO5; obtain ⟨A6, c6, rfl⟩ := Kd.R_slice hR5; rw [show (ins ++ [a + G]).length = i + 1 by simp [hil.out]] at hR5 ⊢)
      exact ⟨⟨i + 1, a + G, ins ++ [a + G], A6, c6, y', rfl, rfl, by simp, by omega, by omega, by omega, ⟨HW3.out.grown HU3.out hG5⟩, HI3, ⟨hR5⟩⟩, by simp [intOf]; omega⟩
    · have hex : ¬ i < n1 ∨ (i < n1 ∧ ¬ i < n2) ∨ (i < n1 ∧ i < n2 ∧ ¬ i < 200) := by omega
      rcases hex with h | ⟨h, h'⟩ | ⟨h, h', h''⟩
      · have k1 : decide ((i : Int) < (n1 : Int)) = false := by simp; omega
        go_wp2_with fail
        refine (or_out hW.out hU.out hI.out hi3).mono ?_
        rintro e w5 ⟨A5, c5, rfl, hc5, hC5, hRR, hU5⟩
        have HOK := Aside0.mk hI.out.ok
        have HUP := Aside0.mk hI.out.up
        have HNUM := Aside0.mk hI.out.num
        have hil := Aside0.mk hI.out.ilen
        have hLi : (outs delay skew y.q).length ≤ i := by have := hI.out.num; omega
        generalize outs delay skew y.q = L at *
        have hCi := (Kd.R_reads' hU5).2.2
        have HC5 := Aside0.mk hC5
        have HCi := Aside0.mk hCi
        have HRR := Aside0.mk hRR
        have E5 : Aside0 (w5.heap[lb]? = _) := ⟨(hRR.b.block _ (blk_lt E1.out)).trans E1.out⟩
        clear hC5 hCi hRR hU5 hW hI hU HC1 HC2
        rw [hil.out] at HCi
        go_wp2_with fail
        go_loopw [13, 16, 17] (fun v13 v16 v17 wr => OrRel2 w5 L v13 v16 v17 wr) (fun _ _ v _ => L.length - (intOf v).toNat)
        case atStart =>
          refine ⟨0, -1, rfl, rfl, rfl, by omega, fun e he => ?_, ⟨Below.refl _ _⟩⟩
          obtain ⟨k, q1, _⟩ := HOK.out e (List.mem_of_getElem? he)
          omega
        case round =>
          obtain ⟨j, last, rfl, rfl, rfl, hj, hlast, hB⟩ := hrel
          have HB2 : Aside0 (Below wa.heap.size wa wr) := ⟨HRR.out.b.trans (hB.out.mono HRR.out.b.size)⟩
          have E6 := (HB2.out.block _ (blk_lt E1.out)).trans E1.out
          have x1 := blk_cell E6 1
          have x2 := blk_cell E6 2
          have x3 := blk_cell E6 3
          simp only [List.getElem?_toArray, List.getElem?_cons_zero, List.getElem?_cons_succ] at x1 x2 x3
          clear E6
          by_cases hlt : j < L.length
          · have k4 : decide ((j : Int) < (L.length : Int)) = true := by simp; omega
            obtain ⟨ad, a', b', v', rfl, hq, g0, g1, g2⟩ := cm_at (Kd.C_below HC5.out hB.out) j hlt
            obtain ⟨k, q1, q2, q3, q4, q5, q6, q7⟩ := HOK.out _ (List.mem_of_getElem? hq)
            have hl2 := hlast _ hq
            have hnx : Aside0 (∀ e, L[j + 1]? = some e → (k : Int) < e.1) := ⟨fun e he => by have := up_at HUP.out hq he; rw [← q1]; exact this⟩
            dsimp only at q1 q3 q4 q5 hl2
            subst q1
            obtain ⟨adi, rfl, gi⟩ := Kd.at_int (Kd.C_below HCi.out hB.out) (k : Int) (by omega) (by omega)
            rw [Int.toNat_natCast] at gi
            generalize rd ins (k : Int) = Z at *
            have k5 : decide ((k : Int) ≤ last) = false := by simp; omega
            have k6 : decide ((i : Int) ≤ (k : Int)) = false := by simp; omega
            have k7 : decide (IntKind.i64.wrap (v' - skew) < IntKind.i64.wrap (Z + delay)) = false := by
              rw [i64w _ (by omega), i64w _ (by omega)]
              simp
              omega
            clear hq hlast
            go_wp2_with fail
            go_quiet (fail)
            go_wp2_with fail
            exact ⟨⟨j + 1, (k : Int), by simp, rfl, by simp, by omega, hnx.out, ⟨hB.out.trans ((pw_below_drewN (Below.refl _ _) nq).mono hB.out.size)⟩⟩, by simp [intOf]; omega⟩
          · have k4 : decide ((j : Int) < (L.length : Int)) = false := by simp; omega
            have hjl : j = L.length := by omega
            have hnum := HNUM.out
            rw [← hjl] at hnum
            clear hlast
            have HR6 : Aside0 (WyRR wa wr g { y with q := [] }) := ⟨HRR.out.below hB.out⟩
            by_cases hz : ln = 0
            · rw [if_pos hz] at hnum
              have hji : j = i := by omega
              have k5 : ((ln : Int) == 0) = true := by simp [hz]
              have k6 : ((j : Int) == (i : Int)) = true := by simp [hji]
              clear hjl hnum k6
              go_wp2_with fail
              refine (or_out2 _ HR6.out).mono ?_
              rintro e w7 ⟨A7, c7, rfl, hb7⟩
              go_wp2_with fail
              refine (wakes_any _).mono ?_
              rintro e w8 ⟨rfl, hb⟩
              go_wp2_with fail
              go_ret
              exact ⟨rfl, HB0.out.trans ((hb7.trans (hb.mono hb7.size)).mono HB0.out.size)⟩
            · rw [if_neg hz] at hnum
              have hz2 : (ln : Int) ≠ 0 := by omega
              have k5 : ((ln : Int) == 0) = false := by simp [hz]
              have k6 : decide (0 < (ln : Int)) = true := by simp; omega
              go_wp2_with fail
              refine (or_out2 _ HR6.out).mono ?_
              rintro e w7 ⟨A7, c7, rfl, hb7⟩
              go_wp2_with fail
              refine (wakes_any _).mono ?_
              rintro e w8 ⟨rfl, hb⟩
              go_wp2_with fail
              go_ret
              exact ⟨rfl, HB0.out.trans ((hb7.trans (hb.mono hb7.size)).mono HB0.out.size)⟩
      · have k1 : decide ((i : Int) < (n1 : Int)) = true := by simp; omega
        have k2 : decide ((i : Int) < (n2 : Int)) = false := by simp; omega
        go_wp2_with fail
        refine (or_out hW.out hU.out hI.out hi3).mono ?_
        rintro e w5 ⟨A5, c5, rfl, hc5, hC5, hRR, hU5⟩
        have HOK := Aside0.mk hI.out.ok
        have HUP := Aside0.mk hI.out.up
        have HNUM := Aside0.mk hI.out.num
        have hil := Aside0.mk hI.out.ilen
        have hLi : (outs delay skew y.q).length ≤ i := by have := hI.out.num; omega
        generalize outs delay skew y.q = L at *
        have hCi := (Kd.R_reads' hU5).2.2
        have HC5 := Aside0.mk hC5
        have HCi := Aside0.mk hCi
        have HRR := Aside0.mk hRR
        have E5 : Aside0 (w5.heap[lb]? = _) := ⟨(hRR.b.block _ (blk_lt E1.out)).trans E1.out⟩
        clear hC5 hCi hRR hU5 hW hI hU HC1 HC2
        rw [hil.out] at HCi
        go_wp2_with fail
        go_loopw [13, 16, 17] (fun v13 v16 v17 wr => OrRel2 w5 L v13 v16 v17 wr) (fun _ _ v _ => L.length - (intOf v).toNat)
        case atStart =>
          refine ⟨0, -1, rfl, rfl, rfl, by omega, fun e he => ?_, ⟨Below.refl _ _⟩⟩
          obtain ⟨k, q1, _⟩ := HOK.out e (List.mem_of_getElem? he)
          omega
        case round =>
          obtain ⟨j, last, rfl, rfl, rfl, hj, hlast, hB⟩ := hrel
          have HB2 : Aside0 (Below wa.heap.size wa wr) := ⟨HRR.out.b.trans (hB.out.mono HRR.out.b.size)⟩
          have E6 := (HB2.out.block _ (blk_lt E1.out)).trans E1.out
          have x1 := blk_cell E6 1
          have x2 := blk_cell E6 2
          have x3 := blk_cell E6 3
          simp only [List.getElem?_toArray, List.getElem?_cons_zero, List.getElem?_cons_succ] at x1 x2 x3
          clear E6
          by_cases hlt : j < L.length
          · have k4 : decide ((j : Int) < (L.length : Int)) = true := by simp; omega
            obtain ⟨ad, a', b', v', rfl, hq, g0, g1, g2⟩ := cm_at (Kd.C_below HC5.out hB.out) j hlt
            obtain ⟨k, q1, q2, q3, q4, q5, q6, q7⟩ := HOK.out _ (List.mem_of_getElem? hq)
            have hl2 := hlast _ hq
            have hnx : Aside0 (∀ e, L[j + 1]? = some e → (k : Int) < e.1) := ⟨fun e he => by have := up_at HUP.out hq he; rw [← q1]; exact this⟩
            dsimp only at q1 q3 q4 q5 hl2
            subst q1
            obtain ⟨adi, rfl, gi⟩ := Kd.at_int (Kd.C_below HCi.out hB.out) (k : Int) (by omega) (by omega)
            rw [Int.toNat_natCast] at gi
            generalize rd ins (k : Int) = Z at *
            have k5 : decide ((k : Int) ≤ last) = false := by simp; omega
            have k6 : decide ((i : Int) ≤ (k : Int)) = false := by simp; omega
            have k7 : decide (IntKind.i64.wrap (v' - skew) < IntKind.i64.wrap (Z + delay)) = false := by
              rw [i64w _ (by omega), i64w _ (by omega)]
              simp
              omega
            clear hq hlast
            go_wp2_with fail
            go_quiet (fail)
            go_wp2_with fail
            exact ⟨⟨j + 1, (k : Int), by simp, rfl, by simp, by omega, hnx.out, ⟨hB.out.trans ((pw_below_drewN (Below.refl _ _) nq).mono hB.out.size)⟩⟩, by simp [intOf]; omega⟩
          · have k4 : decide ((j : Int) < (L.length : Int)) = false := by simp; omega
            have hjl : j = L.length := by omega
            have hnum := HNUM.out
            rw [← hjl] at hnum
            clear hlast
            have HR6 : Aside0 (WyRR wa wr g { y with q := [] }) := ⟨HRR.out.below hB.out⟩
            by_cases hz : ln = 0
            · rw [if_pos hz] at hnum
              have hji : j = i := by omega
              have k5 : ((ln : Int) == 0) = true := by simp [hz]
              have k6 : ((j : Int) == (i : Int)) = true := by simp [hji]
              clear hjl hnum k6
              go_wp2_with fail
              refine (or_out2 _ HR6.out).mono ?_
              rintro e w7 ⟨A7, c7, rfl, hb7⟩
              go_wp2_with fail
              refine (wakes_any _).mono ?_
              rintro e w8 ⟨rfl, hb⟩
              go_wp2_with fail
              go_ret
              exact ⟨rfl, HB0.out.trans ((hb7.trans (hb.mono hb7.size)).mono HB0.out.size)⟩
            · rw [if_neg hz] at hnum
              have hz2 : (ln : Int) ≠ 0 := by omega
              have k5 : ((ln : Int) == 0) = false := by simp [hz]
              have k6 : decide (0 < (ln : Int)) = true := by simp; omega
              go_wp2_with fail
              refine (or_out2 _ HR6.out).mono ?_
              rintro e w7 ⟨A7, c7, rfl, hb7⟩
              go_wp2_with fail
              refine (wakes_any _).mono ?_
              rintro e w8 ⟨rfl, hb⟩
              go_wp2_with fail
              go_ret
              exact ⟨rfl, HB0.out.trans ((hb7.trans (hb.mono hb7.size)).mono HB0.out.size)⟩
      · have k1 : decide ((i : Int) < (n1 : Int)) = true := by simp; omega
        have k2 : decide ((i : Int) < (n2 : Int)) = true := by simp; omega
        have k3 : decide ((i : Int) < 200) = false := by simp; omega
        go_wp2_with fail
        refine (or_out hW.out hU.out hI.out hi3).mono ?_
        rintro e w5 ⟨A5, c5, rfl, hc5, hC5, hRR, hU5⟩
        have HOK := Aside0.mk hI.out.ok
        have HUP := Aside0.mk hI.out.up
        have HNUM := Aside0.mk hI.out.num
        have hil := Aside0.mk hI.out.ilen
        have hLi : (outs delay skew y.q).length ≤ i := by have := hI.out.num; omega
        generalize outs delay skew y.q = L at *
        have hCi := (Kd.R_reads' hU5).2.2
        have HC5 := Aside0.mk hC5
        have HCi := Aside0.mk hCi
        have HRR := Aside0.mk hRR
        have E5 : Aside0 (w5.heap[lb]? = _) := ⟨(hRR.b.block _ (blk_lt E1.out)).trans E1.out⟩
        clear hC5 hCi hRR hU5 hW hI hU HC1 HC2
        rw [hil.out] at HCi
        go_wp2_with fail
        go_loopw [13, 16, 17] (fun v13 v16 v17 wr => OrRel2 w5 L v13 v16 v17 wr) (fun _ _ v _ => L.length - (intOf v).toNat)
        case atStart =>
          refine ⟨0, -1, rfl, rfl, rfl, by omega, fun e he => ?_, ⟨Below.refl _ _⟩⟩
          obtain ⟨k, q1, _⟩ := HOK.out e (List.mem_of_getElem? he)
          omega
        case round =>
          obtain ⟨j, last, rfl, rfl, rfl, hj, hlast, hB⟩ := hrel
          have HB2 : Aside0 (Below wa.heap.size wa wr) := ⟨HRR.out.b.trans (hB.out.mono HRR.out.b.size)⟩
          have E6 := (HB2.out.block _ (blk_lt E1.out)).trans E1.out
          have x1 := blk_cell E6 1
          have x2 := blk_cell E6 2
          have x3 := blk_cell E6 3
          simp only [List.getElem?_toArray, List.getElem?_cons_zero, List.getElem?_cons_succ] at x1 x2 x3
          clear E6
          by_cases hlt : j < L.length
          · have k4 : decide ((j : Int) < (L.length : Int)) = true := by simp; omega
            obtain ⟨ad, a', b', v', rfl, hq, g0, g1, g2⟩ := cm_at (Kd.C_below HC5.out hB.out) j hlt
            obtain ⟨k, q1, q2, q3, q4, q5, q6, q7⟩ := HOK.out _ (List.mem_of_getElem? hq)
            have hl2 := hlast _ hq
            have hnx : Aside0 (∀ e, L[j + 1]? = some e → (k : Int) < e.1) := ⟨fun e he => by have := up_at HUP.out hq he; rw [← q1]; exact this⟩
            dsimp only at q1 q3 q4 q5 hl2
            subst q1
            obtain ⟨adi, rfl, gi⟩ := Kd.at_int (Kd.C_below HCi.out hB.out) (k : Int) (by omega) (by omega)
            rw [Int.toNat_natCast] at gi
            generalize rd ins (k : Int) = Z at *
            have k5 : decide ((k : Int) ≤ last) = false := by simp; omega
            have k6 : decide ((i : Int) ≤ (k : Int)) = false := by simp; omega
            have k7 : decide (IntKind.i64.wrap (v' - skew) < IntKind.i64.wrap (Z + delay)) = false := by
              rw [i64w _ (by omega), i64w _ (by omega)]
              simp
              omega
            clear hq hlast
            go_wp2_with fail
            go_quiet (fail)
            go_wp2_with fail
            exact ⟨⟨j + 1, (k : Int), by simp, rfl, by simp, by omega, hnx.out, ⟨hB.out.trans ((pw_below_drewN (Below.refl _ _) nq).mono hB.out.size)⟩⟩, by simp [intOf]; omega⟩
          · have k4 : decide ((j : Int) < (L.length : Int)) = false := by simp; omega
            have hjl : j = L.length := by omega
            have hnum := HNUM.out
            rw [← hjl] at hnum
            clear hlast
            have HR6 : Aside0 (WyRR wa wr g { y with q := [] }) := ⟨HRR.out.below hB.out⟩
            by_cases hz : ln = 0
            · rw [if_pos hz] at hnum
              have hji : j = i := by omega
              have k5 : ((ln : Int) == 0) = true := by simp [hz]
              have k6 : ((j : Int) == (i : Int)) = true := by simp [hji]
              clear hjl hnum k6
              go_wp2_with fail
              refine (or_out2 _ HR6.out).mono ?_
              rintro e w7 ⟨A7, c7, rfl, hb7⟩
              go_wp2_with fail
              refine (wakes_any _).mono ?_
              rintro e w8 ⟨rfl, hb⟩
              go_wp2_with fail
              go_ret
              exact ⟨rfl, HB0.out.trans ((hb7.trans (hb.mono hb7.size)).mono HB0.out.size)⟩
            · rw [if_neg hz] at hnum
              have hz2 : (ln : Int) ≠ 0 := by omega
              have k5 : ((ln : Int) == 0) = false := by simp [hz]
              have k6 : decide (0 < (ln : Int)) = true := by simp; omega
              go_wp2_with fail
              refine (or_out2 _ HR6.out).mono ?_
              rintro e w7 ⟨A7, c7, rfl, hb7⟩
              go_wp2_with fail
              refine (wakes_any _).mono ?_
              rintro e w8 ⟨rfl, hb⟩
              go_wp2_with fail
              go_ret
              exact ⟨rfl, HB0.out.trans ((hb7.trans (hb.mono hb7.size)).mono HB0.out.size)⟩
set_option maxRecDepth 100000 in
set_option maxHeartbeats 1000000 in
theorem order_bad (rate delay lose skew : Int) (v1 v2 : Value) (w : World) (h3 : I64 skew) (hG : goodLk rate delay lose skew = false) :
    Calls Try.prog 3 #[.agg #[.int .i64 rate, .int .i64 delay, .int .i64 lose, .int .i64 skew], v1, v2] w fun e w' => e = .returned (.bool true) ∧ Below w.heap.size w w' := by
  have CN := Aside0.mk (fun w' => lknew_bad rate delay lose skew h3 w' hG)
  have CG := Aside0.mk (fun w' => rgood_any rate delay lose skew h3 w')
  rw [hG] at CG
  clear hG h3
  go_enter Try.func3, Try.ntmps3
  go_wp2_with fail
  have hB0 := (Below.refl w.heap.size w).alloc (Nat.le_refl _) (.cells #[.int .i64 rate, .int .i64 delay, .int .i64 lose, .int .i64 skew] 23)
  have E0 := blk_new w (.cells #[.int .i64 rate, .int .i64 delay, .int .i64 lose, .int .i64 skew] 23)
  refine (CG.out _).mono ?_
  rintro e w1 ⟨rfl, hb⟩
  have E1 := (hb.block _ (blk_lt E0)).trans E0
  have x0 := blk_cell E1 0
  have x1 := blk_cell E1 1
  have x2 := blk_cell E1 2
  have x3 := blk_cell E1 3
  simp only [List.getElem?_toArray, List.getElem?_cons_zero, List.getElem?_cons_succ] at x0 x1 x2 x3
  have hB1 := Aside0.mk (hB0.trans (hb.mono hB0.size))
  clear E0 E1 hb hB0
  go_wp2_with fail
  refine (CN.out _).mono ?_
  rintro e w2 ⟨rfl, hb⟩
  go_wp2_with fail
  refine (wakes_any _).mono ?_
  rintro e w3 ⟨rfl, hb3⟩
  go_wp2_with fail
  go_ret
  have hB2 := hB1.out.trans (hb.mono hB1.out.size)
  exact ⟨rfl, hB2.trans (hb3.mono hB2.size)⟩
theorem order_true (rate delay lose skew : Int) (A1 : Option Addr) (c1 : Nat) (sz : List Int) (A2 : Option Addr) (c2 : Nat) (gp : List Int) (w : World) (h0 : I64 rate) (_ : I64 delay) (_ : I64 lose) (h3 : I64 skew)
    (hC1 : (Kd.int .u16).C w A1 sz.length sz) (_ : sz.length ≤ c1) (hm1 : sz.length ≤ maxLen) (hw1 : ∀ x ∈ sz, U16 x) (hC2 : (Kd.int .u16).C w A2 gp.length gp) (_ : gp.length ≤ c2) (hm2 : gp.length ≤ maxLen) (hw2 : ∀ x ∈ gp, U16 x) :
    Calls Try.prog 3 #[.agg #[.int .i64 rate, .int .i64 delay, .int .i64 lose, .int .i64 skew], .slice A1 sz.length c1, .slice A2 gp.length c2] w fun e w' => e = .returned (.bool true) ∧ Below w.heap.size w w' := by
  cases hG : goodLk rate delay lose skew with
  | true =>
    have hgg := hG
    unfold goodLk at hgg
    simp only [Bool.and_eq_true, decide_eq_true_eq] at hgg
    obtain ⟨ln, rfl⟩ := Int.eq_ofNat_of_zero_le hgg.1.1.2
    exact order_good rate delay skew ln A1 c1 sz A2 c2 gp w h0 h3 hG hC1 hw1 hC2 hw2 hm1 hm2
  | false => exact order_bad rate delay lose skew _ _ w h3 hG
end Go.Proofs.Ytaghgjmcjmjfiaa.B
