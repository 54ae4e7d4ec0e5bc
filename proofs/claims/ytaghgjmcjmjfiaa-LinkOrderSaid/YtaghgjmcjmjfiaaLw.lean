/-
  The way with one queue: its calls one behind the other; what shows that the law's values are awake. Walks over the program.
-/
import Derived.Test.YtaghgjmcjmjfiaaLo
namespace Go.Proofs.Ytaghgjmcjmjfiaa.B
open Go.RowKit Go.Proofs.YtaghgjmcjmjfiaaW.PrintWords Go.Proofs.YtaghgjmcjmjfiaaW.PrintLast Go.Proofs.YtaghgjmcjmjfiaaW.PrintMore
set_option linter.unusedVariables false
set_option linter.unusedSimpArgs false
/-- A way that was made since w0, its queue all its own. -/
def WyRun (w0 w : World) (g : Nat) (y : Wy) : Prop := ∃ v, WyIs w w0.heap.size g y v ∧ Below w0.heap.size w0 w
/-- A way that was made since w0, as far as its queue is read. -/
def WyRR (w0 w : World) (g : Nat) (y : Wy) : Prop := ∃ A c, WyRd w g y A c ∧ w0.heap.size ≤ g ∧ Below w0.heap.size w0 w
theorem WyRun.below {w0 w w1 : World} {g : Nat} {y : Wy} (h : WyRun w0 w g y) (k : Below w.heap.size w w1) : WyRun w0 w1 g y := by
  obtain ⟨v, ⟨h1, h2, h3⟩, h4⟩ := h
  exact ⟨v, ⟨h1, (k.block g (blk_lt h2)).trans h2, Kd.Q_below h3 k⟩, h4.trans (k.mono h4.size)⟩
theorem WyRR.below {w0 w w1 : World} {g : Nat} {y : Wy} (h : WyRR w0 w g y) (k : Below w.heap.size w w1) : WyRR w0 w1 g y := by
  obtain ⟨A, c, ⟨h1, h2, h3, h4⟩, h5, h6⟩ := h
  exact ⟨A, c, ⟨(k.block g (blk_lt h1)).trans h1, h2, Kd.C_below h3 k, h4⟩, h5, h6.trans (k.mono h6.size)⟩
theorem WyRun.rr {w0 w : World} {g : Nat} {y : Wy} (h : WyRun w0 w g y) : WyRR w0 w g y := by
  obtain ⟨v, ⟨h1, h2, h3⟩, h4⟩ := h
  have hne := Kd.Q_ne h3 h2 (by decide)
  obtain ⟨A, c, rfl, hc, hC⟩ := Kd.Q_reads h3
  refine ⟨A, c, ⟨h2, hc, hC, fun a ha _ he => hne ?_⟩, h1, h4⟩
  subst ha
  simp [Value.ownBlock, he]
theorem WyRun.b {w0 w : World} {g : Nat} {y : Wy} (h : WyRun w0 w g y) : Below w0.heap.size w0 w := by
  obtain ⟨_, _, h⟩ := h
  exact h
theorem WyRR.b {w0 w : World} {g : Nat} {y : Wy} (h : WyRR w0 w g y) : Below w0.heap.size w0 w := by
  obtain ⟨_, _, _, _, h⟩ := h
  exact h
set_option maxHeartbeats 2000000 in
theorem queue_rd (g : Nat) (y : Wy) (A : Option Addr) (c : Nat) (t : Int) (w : World) (hW : WyRd w g y A c) (hq : y.q.length < 9223372036854775808) : Calls Try.prog 15 #[.pointer (some ⟨g, 0, none⟩), .int .i64 t] w fun e w' => e = .returned (.int .i64 (qsum y.q t)) ∧ Below w.heap.size w w' := by
  obtain ⟨rate, delay, lose, skew, last, free, count, q⟩ := y
  obtain ⟨hA, hc, hC, _⟩ := hW
  unfold WyAt at hA
  dsimp only at hA hc hC hq
  have h7 := blk_cell hA 7
  simp only [List.getElem?_toArray, List.getElem?_cons_zero, List.getElem?_cons_succ] at h7
  have HC := Aside0.mk hC
  obtain ⟨n, hn⟩ : ∃ n, n = q.length := ⟨_, rfl⟩
  rw [← hn] at h7 HC hq
  have HN := Aside0.mk hn
  clear hA hC hn hc
  go_enter Try.func15, Try.ntmps15
  go_wp2_with fail
  go_loopw [5, 15] (fun v5 v15 wr => QuRel q n t w v5 v15 wr) (fun _ v _ => n - (intOf v).toNat)
  case atStart => exact ⟨0, rfl, rfl, by omega, ⟨Below.refl _ _⟩⟩
  case round =>
    obtain ⟨k, rfl, rfl, hk, hB⟩ := hrel
    by_cases hlt : k < n
    · obtain ⟨ad, a, b, c2, d, l, rfl, hp, g0, g1, g2, g3, g4⟩ := pk_at HC.out k hlt
      have hadb : (ad.add (k * 5)).block < w.heap.size := World.block_lt_of_cell? w _ g0
      have hcell : ∀ (p : Addr) (v : Value), p.block < w.heap.size → w.cell? p = some v → wr.cell? p = some v := by
        intro p v hp hc
        rw [World.cell?_of_block (w := w) (hB.out.block _ hp)]
        exact hc
      have t0 := hcell _ _ hadb g0
      have t1 := hcell ⟨(ad.add (k * 5)).block, (ad.add (k * 5)).off + 1, none⟩ _ hadb (by rw [← add_field5 _ _ 1 (by omega)]; exact g1)
      have t2 := hcell ⟨(ad.add (k * 5)).block, (ad.add (k * 5)).off + 2, none⟩ _ hadb (by rw [← add_field5 _ _ 2 (by omega)]; exact g2)
      have t3 := hcell ⟨(ad.add (k * 5)).block, (ad.add (k * 5)).off + 3, none⟩ _ hadb (by rw [← add_field5 _ _ 3 (by omega)]; exact g3)
      have t4 := hcell ⟨(ad.add (k * 5)).block, (ad.add (k * 5)).off + 4, none⟩ _ hadb (by rw [← add_field5 _ _ 4 (by omega)]; exact g4)
      clear g0 g1 g2 g3 g4 hcell
      go_wp2_with fail
      all_goals
        have hs := qsum_step t hp
        refine ⟨⟨k + 1, ?_, by simp, by omega, ⟨hB.out.alloc hB.out.size _⟩⟩, by simp [intOf]; omega⟩
        rw [hs]
        simp only [qstep]
      · rw [if_pos ⟨by assumption, by assumption⟩]
      · rw [if_neg (by omega)]
      · rw [if_neg (by omega)]
    · have hkn : k = n := by omega
      subst hkn
      go_wp2_with fail
      all_goals go_ret
      have e := HN.out
      rw [List.take_of_length_le (by omega)]
      exact ⟨rfl, hB.out⟩
theorem queue_run {w0 w : World} {g : Nat} {y : Wy} (t : Int) (h : WyRR w0 w g y) (hq : y.q.length ≤ 4096) : Calls Try.prog 15 #[.pointer (some ⟨g, 0, none⟩), .int .i64 t] w fun e w' => e = .returned (.int .i64 (qsum y.q t)) ∧ Below w.heap.size w w' := by
  obtain ⟨A, c, h1, _, _⟩ := h
  exact queue_rd g y A c t w h1 (by omega)
theorem wait_run {w0 w : World} {g : Nat} {y : Wy} (t : Int) (h : WyRR w0 w g y) (hf : I64 y.free) (ht : I64 t) : Calls Try.prog 13 #[.pointer (some ⟨g, 0, none⟩), .int .i64 t] w fun e w' => e = .returned (.int .i64 (max (hold (y.free - t)) 0)) ∧ Below w.heap.size w w' := by
  obtain ⟨A, c, h1, _, _⟩ := h
  exact wait_any g y _ t hf ht w h1.1
theorem new_run {w0 w : World} (r d l s : Int) (hs : I64 s) (hB : Below w0.heap.size w0 w) (h : goodLk r d l s = true) : Calls Try.prog 9 #[lkV r d l s] w fun e w' => ∃ g : Nat, e = .returned (.tuple #[.pointer (some ⟨g, 0, none⟩), .int .i64 0]) ∧ WyRun w0 w' g (Wy.made r d l s) := by
  refine (lknew_good r d l s hs w h).mono ?_
  rintro e w' ⟨g, he, ⟨h1, h2, h3⟩, h4⟩
  exact ⟨g, he, _, ⟨Nat.le_trans hB.size h1, h2, Kd.Q_nil _ _ _ _ _⟩, hB.trans (h4.mono hB.size)⟩
theorem in_run {w0 w : World} {g : Nat} {y : Wy} (seq size a : Int) (h : WyRun w0 w g y) (hs0 : 0 ≤ seq) (hs1 : seq ≤ 65535) (hz0 : 0 ≤ size) (hz1 : size ≤ 1500) (ha0 : y.last ≤ a) (ha1 : a ≤ 1125899906842624) (hq : y.q.length < 4096) (hr : I64 y.rate) :
    Calls Try.prog 11 #[.pointer (some ⟨g, 0, none⟩), .int .i64 seq, .int .i64 size, .int .i64 a] w fun e w' => e = .returned (.bool true) ∧ WyRun w0 w' g (y.in1 seq size a (mdo size 8000000 y.rate 3)) := by
  obtain ⟨v, h1, h4⟩ := h
  have hb := Kd.Q_base h1.2.2
  refine (in_walk w0.heap.size g y v seq size a _ w h1 hs0 hs1 hz0 hz1 ha0 ha1 hq ⟨fun w => ticks_any y.rate size hr (by unfold I64; omega) w⟩).mono ?_
  rintro e w' ⟨he, v', h5, _, h7⟩
  refine ⟨he, v', h5, h4.trans (h7.toBelow h4.size ?_)⟩
  rintro i (rfl | hi)
  · exact h1.1
  · exact hb i hi.symm
theorem out_run {w0 w : World} {g : Nat} {y : Wy} (t : Int) (h : WyRR w0 w g y) (hq : y.q.length ≤ 4096) : Calls Try.prog 12 #[.pointer (some ⟨g, 0, none⟩), .int .i64 t] w fun e w' =>
    ∃ (A : Option Addr) (c : Nat), e = .returned (.slice A (lkOut y.delay y.skew t y.q).1.length c) ∧ (lkOut y.delay y.skew t y.q).1.length ≤ c ∧ cmD.C w' A (lkOut y.delay y.skew t y.q).1.length (lkOut y.delay y.skew t y.q).1 ∧ WyRR w0 w' g { y with q := (lkOut y.delay y.skew t y.q).2 } := by
  obtain ⟨A, c, h1, h2, h3⟩ := h
  refine (out_any g y A c t w h1 hq).mono ?_
  rintro e w' ⟨vo, A1, c1, he, hR, h4, h5⟩
  obtain ⟨A2, c2, rfl, h6, h7⟩ := Kd.R_reads hR
  exact ⟨A2, c2, he, h6, h7, A1, c1, h4, h2, h3.trans (h5.toBelow h3.size (fun i hi => by omega))⟩
theorem cm_at {w : World} {A : Option Addr} {n : Nat} {q : List Cmt} (h : cmD.C w A n q) (k : Nat) (hk : k < n) : ∃ (ad : Addr) (a b c : Int), A = some ad ∧ q[k]? = some (a, b, c) ∧ w.cell? (ad.add (k * 3)) = some (.int .i64 a) ∧ w.cell? ⟨(ad.add (k * 3)).block, (ad.add (k * 3)).off + 1, none⟩ = some (.int .i64 b) ∧ w.cell? ⟨(ad.add (k * 3)).block, (ad.add (k * 3)).off + 2, none⟩ = some (.int .i64 c) := by
  have hn := Kd.C_len h
  obtain ⟨ad, cs, hA, _, hK, hc⟩ := Kd.C_get h (0, 0, 0) (k : Int) (by omega) (by omega)
  rw [Int.toNat_natCast] at hK hc
  obtain ⟨p, hp⟩ : ∃ p, q[k]? = some p := ⟨q[k]'(by omega), List.getElem?_eq_getElem (by omega)⟩
  have hg : q.getD k (0, 0, 0) = p := by rw [List.getD_eq_getElem?_getD, hp]; rfl
  rw [hg] at hK
  obtain ⟨a, b, c⟩ := p
  obtain ⟨_, _, rfl, rfl, _, _, rfl, rfl, rfl⟩ := hK
  exact ⟨ad, a, b, c, hA, hp, hc 0 _ rfl, by rw [← add_field5 _ _ 1 (by omega)]; exact hc 1 _ rfl, by rw [← add_field5 _ _ 2 (by omega)]; exact hc 2 _ rfl⟩
def wkY : Wy := ⟨8000000, 5000, 0, 0, 0, 1000, 1, [(3, 1000, 0, 1000, false)]⟩
theorem wk_mdo : mdo 1000 8000000 8000000 3 = 1000 := by decide +kernel
theorem wk_in : (Wy.made 8000000 5000 0 0).in1 3 1000 0 1000 = wkY := by
  unfold Wy.made Wy.in1 wkY
  dsimp only
  rw [show wrap64 (max (0 : Int) 0 + 1000) = 1000 by decide +kernel, show wrap64 ((0 : Int) + 1) = 1 by decide +kernel]
  rfl
theorem wk_queue : qsum wkY.q 0 = 1000 := by decide +kernel
theorem wk_wait : max (hold (wkY.free - 0)) 0 = 1000 := by decide +kernel
theorem wk_out1 : lkOut wkY.delay wkY.skew 5999 wkY.q = ([], wkY.q) := by decide +kernel
theorem wk_out2 : lkOut wkY.delay wkY.skew 6000 wkY.q = ([(3, 1000, 6000)], []) := by decide +kernel
theorem wakes_any (w : World) : Calls Try.prog 10 #[] w fun e w' => e = .returned (.bool true) ∧ Below w.heap.size w w' := by
  go_enter Try.func10, Try.ntmps10
  go_wp2_with fail
  refine (new_run (w0 := w) 8000000 5000 0 0 (by decide) (Below.refl _ _) (by decide)).mono ?_
  rintro e w1 ⟨g, rfl, hW⟩
  have H1 := Aside0.mk hW
  clear hW
  go_wp2_with fail
  refine (in_run 3 1000 0 H1.out (by decide) (by decide) (by decide) (by decide) (by decide) (by decide) (by decide) (by decide)).mono ?_
  rintro e w2 ⟨rfl, hW⟩
  have H2 : Aside0 (WyRR w w2 g wkY) := ⟨by have h := hW.rr; rw [show (Wy.made 8000000 5000 0 0).rate = 8000000 from rfl, wk_mdo, wk_in] at h; exact h⟩
  clear hW
  go_wp2_with fail
  refine (queue_run 0 H2.out (by decide)).mono ?_
  rintro e w3 ⟨rfl, hb⟩
  rw [wk_queue]
  have H3 : Aside0 (WyRR w w3 g wkY) := ⟨H2.out.below hb⟩
  clear hb
  go_wp2_with fail
  refine (wait_run 0 H3.out (by decide) (by decide)).mono ?_
  rintro e w4 ⟨rfl, hb⟩
  rw [wk_wait]
  have H4 : Aside0 (WyRR w w4 g wkY) := ⟨H3.out.below hb⟩
  clear hb
  go_wp2_with fail
  refine (out_run 5999 H4.out (by decide)).mono ?_
  rw [wk_out1]
  rintro e w5 ⟨A5, c5, rfl, _, _, hW⟩
  have H5 : Aside0 (WyRR w w5 g wkY) := ⟨hW⟩
  clear hW
  go_wp2_with fail
  refine (out_run 6000 H5.out (by decide)).mono ?_
  rw [wk_out2]
  rintro e w6 ⟨A6, c6, rfl, hc6, hC6, hW⟩
  have H6 : Aside0 (WyRR w w6 g { wkY with q := [] }) := ⟨hW⟩
  obtain ⟨ad, a, b, c, rfl, hp, k0, k1, k2⟩ := cm_at hC6 0 (by decide)
  injection hp with hp
  injection hp with e1 hp
  injection hp with e2 e3
  subst e1 e2 e3
  rw [Nat.zero_mul, show ad.add 0 = ad by unfold Addr.add; simp] at k0 k1 k2
  clear hW hC6
  go_wp2_with fail
  refine (queue_run 6000 H6.out (by decide)).mono ?_
  rintro e w7 ⟨rfl, hb⟩
  have H7 := H6.out.below hb
  go_wp2_with fail
  go_ret
  exact ⟨rfl, H7.b⟩
theorem none_true (k a b t : Int) (w : World) (_ : I64 k) (_ : I64 a) (_ : I64 b) (_ : I64 t) : Calls Try.prog 5 #[.agg #[.int .i64 k, .int .i64 a, .int .i64 b, .int .i64 t]] w fun e w' => e = .returned (.bool true) ∧ Below w.heap.size w w' := by
  go_enter Try.func5, Try.ntmps5
  go_wp2_with fail
  refine (in_nil _ _ _ _).mono ?_
  rintro e1 w1 ⟨rfl, rfl⟩
  go_wp2_with fail
  refine (out_nil _ _).mono ?_
  rintro e1 w1 ⟨rfl, rfl⟩
  go_wp2_with fail
  refine (queue_nil _ _).mono ?_
  rintro e1 w1 ⟨rfl, rfl⟩
  go_wp2_with fail
  refine (wait_nil _ _).mono ?_
  rintro e1 w1 ⟨rfl, rfl⟩
  go_wp2_with fail
  refine (wakes_any _).mono ?_
  rintro e1 w1 ⟨rfl, hB⟩
  go_wp2_with fail
  go_ret
  exact ⟨rfl, ((Below.refl _ _).alloc (Nat.le_refl _) _).trans (hB.mono (by simp))⟩
end Go.Proofs.Ytaghgjmcjmjfiaa.B
