/-
  The way with one queue: in what order packets come. Plain laws, and the calls with a row of times beside the way.
-/
import Derived.Test.YtaghgjmcjmjfiaaLv
namespace Go.Proofs.Ytaghgjmcjmjfiaa.B
open Go.RowKit Go.Proofs.YtaghgjmcjmjfiaaW.PrintWords Go.Proofs.YtaghgjmcjmjfiaaW.PrintLast Go.Proofs.YtaghgjmcjmjfiaaW.PrintMore
set_option linter.unusedVariables false
set_option linter.unusedSimpArgs false
/-- A row of times. -/
abbrev Row (w : World) (base : Nat) (u : Value) (xs : List Int) : Prop := (Kd.int .i64).R 2 w base (fun _ => True) u xs
theorem row_touch {w w1 : World} {base : Nat} {u : Value} {xs : List Int} {S : Nat → Prop} (h : Row w base u xs) (k : Touch S w w1) (hS : ∀ i cells, S i → w.heap[i]? ≠ some (.cells cells 2 (0, 0))) : Row w1 base u xs := by
  refine Kd.R_mono (Kd.R_step (Kd.R_bound h) ?_) (fun _ _ => trivial)
  rintro i ⟨_, _, _, q, hq, cells, hc⟩ hlt
  have e : q = 2 := by simpa [Kd.int, Kd.scalar] using hq
  subst e
  exact k.block i hlt (fun hs => hS i cells hs hc)
theorem WyRun.grown {w0 w w1 : World} {g : Nat} {y : Wy} {u : Value} {xs : List Int} (h : WyRun w0 w g y) (hr : Row w w0.heap.size u xs) (hg : w.grownBy w1 u.ownBlock) : WyRun w0 w1 g y := by
  obtain ⟨v, ⟨h1, h2, h3⟩, h4⟩ := h
  have hb := (Kd.R_bound hr).1
  have hng : some g ≠ u.ownBlock := by
    intro he
    obtain ⟨_, _, _, q, hq, cells, hc⟩ := hb g he.symm
    have e : q = 2 := by simpa [Kd.int, Kd.scalar] using hq
    subst e
    unfold WyAt at h2
    rw [hc] at h2
    injection h2 with h2
    injection h2 with _ h2
    exact absurd h2 (by decide)
  refine ⟨v, ⟨h1, blk_grown h2 hg hng, ?_⟩, h4.grown hg h4.size (fun k hk => (hb k hk).2.1)⟩
  cases ho : u.ownBlock with
  | none =>
    rw [ho] at hg
    exact Kd.Q_grown h3 hg (fun k _ => by simp)
  | some k =>
    obtain ⟨_, _, _, q, hq, cells, hc⟩ := hb k ho
    have e : q = 2 := by simpa [Kd.int, Kd.scalar] using hq
    subst e
    have h5 := Kd.Q_types h3 hc (by
      intro q hq
      have : q = 53 := by simpa [pkD, Kd.pair, Kd.int, Kd.bool, Kd.scalar] using hq
      subst this
      decide)
    rw [ho] at hg
    exact Kd.Q_mono (Kd.Q_grown h5 hg (fun k' hk' he => hk'.2 (by injection he))) (fun _ _ => trivial)
theorem in_run2 {w0 w : World} {g : Nat} {y : Wy} {u : Value} {xs : List Int} (seq size a : Int) (h : WyRun w0 w g y) (hu : Row w w0.heap.size u xs) (hs0 : 0 ≤ seq) (hs1 : seq ≤ 65535) (hz0 : 0 ≤ size) (hz1 : size ≤ 1500) (ha0 : y.last ≤ a) (ha1 : a ≤ 1125899906842624) (hq : y.q.length < 4096) (hr : I64 y.rate) :
    Calls Try.prog 11 #[.pointer (some ⟨g, 0, none⟩), .int .i64 seq, .int .i64 size, .int .i64 a] w fun e w' => e = .returned (.bool true) ∧ WyRun w0 w' g (y.in1 seq size a (tk y.rate size)) ∧ Row w' w0.heap.size u xs := by
  obtain ⟨v, h1, h4⟩ := h
  have hb := Kd.Q_base h1.2.2
  have hbd := (Kd.Q_bound h1.2.2).1
  refine (in_walk w0.heap.size g y v seq size a _ w h1 hs0 hs1 hz0 hz1 ha0 ha1 hq ⟨fun w => ticks_any y.rate size hr (by unfold I64; omega) w⟩).mono ?_
  rintro e w' ⟨he, v', h5, _, h7⟩
  refine ⟨he, ⟨v', h5, h4.trans (h7.toBelow h4.size ?_)⟩, row_touch hu h7 ?_⟩
  · rintro i (rfl | hi)
    · exact h1.1
    · exact hb i hi.symm
  · rintro i cells (rfl | hi) hc
    · have h2 := h1.2.1
      unfold WyAt at h2
      rw [hc] at h2
      injection h2 with h2
      injection h2 with _ h2
      exact absurd h2 (by decide)
    · obtain ⟨_, _, _, q, hq, cells', hc'⟩ := hbd i hi.symm
      have e2 : q = 53 := by simpa [pkD, Kd.pair, Kd.int, Kd.bool, Kd.scalar] using hq
      subst e2
      rw [hc] at hc'
      injection hc' with hc'
      injection hc' with _ hc'
      exact absurd hc' (by decide)
theorem out_run2 {w0 w : World} {g : Nat} {y : Wy} {u : Value} {xs : List Int} (t : Int) (h : WyRR w0 w g y) (hu : Row w w0.heap.size u xs) (hq : y.q.length ≤ 4096) : Calls Try.prog 12 #[.pointer (some ⟨g, 0, none⟩), .int .i64 t] w fun e w' =>
    ∃ (A : Option Addr) (c : Nat), e = .returned (.slice A (lkOut y.delay y.skew t y.q).1.length c) ∧ (lkOut y.delay y.skew t y.q).1.length ≤ c ∧ cmD.C w' A (lkOut y.delay y.skew t y.q).1.length (lkOut y.delay y.skew t y.q).1 ∧ WyRR w0 w' g { y with q := (lkOut y.delay y.skew t y.q).2 } ∧ Row w' w0.heap.size u xs := by
  obtain ⟨A, c, h1, h2, h3⟩ := h
  refine (out_any g y A c t w h1 hq).mono ?_
  rintro e w' ⟨vo, A1, c1, he, hR, h4, h5⟩
  obtain ⟨A2, c2, rfl, h6, h7⟩ := Kd.R_reads hR
  refine ⟨A2, c2, he, h6, h7, ⟨A1, c1, h4, h2, h3.trans (h5.toBelow h3.size (fun i hi => by omega))⟩, row_touch hu h5 ?_⟩
  rintro i cells rfl hc
  have h8 := h1.1
  unfold WyAt at h8
  rw [hc] at h8
  injection h8 with h8
  injection h8 with _ h8
  exact absurd h8 (by decide)
def outF (d s : Int) (p : Pkt) : Cmt := (p.1, p.2.1, wrap64 (wrap64 (p.2.2.2.1 + d) + s))
/-- What is at the far end when all is. -/
def outs (d s : Int) (q : List Pkt) : List Cmt := (q.filter (fun p => !p.2.2.2.2)).map (outF d s)
theorem outs_snoc (d s : Int) (q : List Pkt) (p : Pkt) : outs d s (q ++ [p]) = outs d s q ++ (if p.2.2.2.2 = true then [] else [outF d s p]) := by
  unfold outs
  rw [List.filter_append, List.map_append]
  cases h : p.2.2.2.2 <;> simp [h]
/-- An element that has come, of i packets that came in at the times ins. -/
def ComeOk (d s : Int) (i : Nat) (ins : List Int) (e : Cmt) : Prop := ∃ k : Nat, e.1 = (k : Int) ∧ k < i ∧ rd ins (k : Int) + d ≤ e.2.2 - s ∧ -4503599627370496 ≤ e.2.2 - s ∧ e.2.2 - s ≤ 4503599627370496 ∧ 0 ≤ rd ins (k : Int) ∧ rd ins (k : Int) ≤ 13107000
structure OrIs (r d s : Int) (ln : Nat) (i : Nat) (a : Int) (ins : List Int) (y : Wy) : Prop where
  rate : y.rate = r
  delay : y.delay = d
  lose : y.lose = (ln : Int)
  skew : y.skew = s
  count : y.count = (i : Int)
  len : y.q.length = i
  ilen : ins.length = i
  a0 : 0 ≤ a
  a1 : a ≤ (i : Int) * 65535
  l0 : y.last ≤ a
  f0 : 0 ≤ y.free
  f1 : y.free ≤ (i : Int) * 12065535
  all : ∀ p ∈ y.q, wrap64 (p.2.2.2.1 + d) ≤ 562949953421312
  ok : ∀ e ∈ outs d s y.q, ComeOk d s i ins e
  up : (outs d s y.q).Pairwise (fun e f => e.1 < f.1)
  num : (outs d s y.q).length + (if ln = 0 then 0 else i / ln) = i
theorem or_made (r d s : Int) (ln : Nat) : OrIs r d s ln 0 0 [] (Wy.made r d ln s) := ⟨rfl, rfl, rfl, rfl, rfl, rfl, rfl, Int.le_refl _, by simp, Int.le_refl _, Int.le_refl _, Int.le_refl _, by simp [Wy.made], by simp [Wy.made, outs], by simp [Wy.made, outs], by simp [Wy.made, outs]⟩
theorem rd_old (ins : List Int) (x : Int) (k : Nat) (hk : k < ins.length) : rd (ins ++ [x]) (k : Int) = rd ins (k : Int) := by
  unfold rd
  simp only [Int.toNat_natCast, List.getD_eq_getElem?_getD]
  rw [List.getElem?_append_left hk]
theorem rd_new (ins : List Int) (x : Int) : rd (ins ++ [x]) (ins.length : Int) = x := by
  unfold rd
  simp [List.getD_eq_getElem?_getD]
theorem succ_div (i ln : Nat) (h : 0 < ln) : (i + 1) / ln = i / ln + (if (i + 1) % ln = 0 then 1 else 0) := by
  have h1 := Nat.div_add_mod i ln
  have h2 := Nat.mod_lt i h
  generalize i / ln = Q at *
  generalize i % ln = R at *
  subst h1
  by_cases hc : R + 1 = ln
  · have e : ln * Q + R + 1 = ln * (Q + 1) := by rw [Nat.mul_add, Nat.mul_one]; omega
    rw [e, Nat.mul_div_cancel_left _ h, Nat.mul_mod_right, if_pos rfl]
  · have hlt : R + 1 < ln := by omega
    rw [Nat.add_assoc, Nat.mul_add_div h, Nat.div_eq_of_lt hlt, Nat.mul_add_mod, Nat.mod_eq_of_lt hlt, if_neg (by omega)]
theorem lose_eq (i ln : Nat) (hi : i < 200) (hl : ln ≤ 1000) : (decide (0 < (ln : Int)) && ((wrap64 ((i : Int) + 1)).tmod (ln : Int) == 0)) = decide (0 < ln ∧ (i + 1) % ln = 0) := by
  have e1 : wrap64 ((i : Int) + 1) = ((i + 1 : Nat) : Int) := by rw [w64in _ (by omega)]; push_cast; rfl
  rw [e1, Int.tmod_eq_emod_of_nonneg (by omega)]
  by_cases h : 0 < ln
  · rw [decide_eq_true (show (0 : Int) < (ln : Int) by omega), Bool.true_and]
    rw [show (((i + 1 : Nat) : Int) % (ln : Int)) = (((i + 1) % ln : Nat) : Int) from (Int.natCast_emod _ _).symm]
    by_cases h2 : (i + 1) % ln = 0
    · rw [h2]
      simp [h]
    · simp only [h, h2, and_false, decide_false]
      exact beq_eq_false_iff_ne.2 (fun hh => h2 (Int.ofNat_eq_zero.1 hh))
  · have h0 : ln = 0 := by omega
    subst h0
    simp
theorem or_step {r d s a : Int} {ln i : Nat} {ins : List Int} {y : Wy} (size g : Int) (h : OrIs r d s ln i a ins y) (hi : i < 200) (hr : 1000 ≤ r) (hs0 : 0 ≤ size) (hs1 : size ≤ 1500) (hg0 : 0 ≤ g) (hg1 : g ≤ 65535) (hd0 : 0 ≤ d) (hd1 : d ≤ 10000000) (hl : ln ≤ 1000) (hk0 : -281474976710656 ≤ s) (hk1 : s ≤ 281474976710656) :
    OrIs r d s ln (i + 1) (a + g) (ins ++ [a + g]) (y.in1 (i : Int) size (a + g) (tk r size)) := by
  obtain ⟨h1, h2, h3, h4, h5, h6, h7, h8, h9, h10, h11, h12, h13, h14, h15, h16⟩ := h
  have ht := tk_le r size hr hs0 hs1
  generalize tk r size = T at *
  have hm1 : y.free ≤ max y.free (a + g) := by omega
  have hm2 : a + g ≤ max y.free (a + g) := by omega
  have hm3 : max y.free (a + g) ≤ (i : Int) * 12065535 + 65535 := by omega
  have hw : wrap64 (max y.free (a + g) + T) = max y.free (a + g) + T := w64in _ (by omega)
  have e1 : wrap64 ((i : Int) + 1) = ((i + 1 : Nat) : Int) := by rw [w64in _ (by omega)]; push_cast; rfl
  have hin : y.in1 (i : Int) size (a + g) T = { y with last := a + g, free := max y.free (a + g) + T, count := ((i + 1 : Nat) : Int), q := y.q ++ [((i : Int), size, a + g, max y.free (a + g) + T, decide (0 < ln ∧ (i + 1) % ln = 0))] } := by
    unfold Wy.in1
    rw [h5, h3, hw, lose_eq i ln hi hl, e1]
  rw [hin]
  clear hin hw e1
  generalize max y.free (a + g) = M at *
  obtain ⟨L, hL⟩ : ∃ L, L = decide (0 < ln ∧ (i + 1) % ln = 0) := ⟨_, rfl⟩
  rw [← hL]
  have hc1 : wrap64 (M + T + d) = M + T + d := w64in _ (by omega)
  have hc2 : wrap64 (M + T + d + s) = M + T + d + s := w64in _ (by omega)
  have hF : outF d s ((i : Int), size, a + g, M + T, L) = ((i : Int), size, M + T + d + s) := by
    unfold outF
    dsimp only
    rw [hc1, hc2]
  refine ⟨h1, h2, h3, h4, rfl, ?_, ?_, by omega, ?_, Int.le_refl _, ?_, ?_, ?_, ?_, ?_, ?_⟩
  · simp [h6]
  · simp [h7]
  · push_cast
    omega
  · dsimp only
    omega
  · dsimp only
    push_cast
    omega
  · intro p hp
    simp only [List.mem_append, List.mem_singleton] at hp
    rcases hp with hp | rfl
    · exact h13 p hp
    · dsimp only
      rw [hc1]
      omega
  · intro e he
    dsimp only at he
    rw [outs_snoc, List.mem_append] at he
    rcases he with he | he
    · obtain ⟨k, q1, q2, q3, q4, q5, q6, q7⟩ := h14 e he
      have hro := rd_old ins (a + g) k (by omega)
      exact ⟨k, q1, by omega, by rw [hro]; exact q3, q4, q5, by rw [hro]; exact q6, by rw [hro]; exact q7⟩
    · split at he
      · simp at he
      · rw [List.mem_singleton] at he
        subst he
        rw [hF]
        have hrn := rd_new ins (a + g)
        rw [h7] at hrn
        exact ⟨i, rfl, by omega, by rw [hrn]; dsimp only; omega, by dsimp only; omega, by dsimp only; omega, by rw [hrn]; omega, by rw [hrn]; omega⟩
  · dsimp only
    rw [outs_snoc, List.pairwise_append]
    refine ⟨h15, by split <;> simp, fun e he f hf => ?_⟩
    split at hf
    · simp at hf
    · rw [List.mem_singleton] at hf
      subst hf
      rw [hF]
      obtain ⟨k, q1, q2, _⟩ := h14 e he
      rw [q1]
      dsimp only
      omega
  · dsimp only
    rw [outs_snoc, List.length_append]
    by_cases h0 : ln = 0
    · have hLf : L = false := by rw [hL]; simp [h0]
      rw [hLf, if_pos h0]
      rw [if_pos h0] at h16
      simp
      omega
    · have hs := succ_div i ln (by omega)
      rw [if_neg h0] at h16 ⊢
      rw [hs]
      by_cases h2 : (i + 1) % ln = 0
      · have hLt : L = true := by rw [hL]; simp [h2]; omega
        rw [hLt, if_pos h2]
        simp
        omega
      · have hLf : L = false := by rw [hL]; simp [h2]
        rw [hLf, if_neg h2]
        simp
        omega
theorem or_outs {r d s a : Int} {ln i : Nat} {ins : List Int} {y : Wy} (h : OrIs r d s ln i a ins y) : lkOut y.delay y.skew 562949953421312 y.q = (outs d s y.q, []) := by
  rw [h.delay, h.skew, lk_all d s _ y.q h.all]
  rfl
theorem up_at {L : List Cmt} (h : L.Pairwise (fun e f => e.1 < f.1)) {i : Nat} {e f : Cmt} (he : L[i]? = some e) (hf : L[i + 1]? = some f) : e.1 < f.1 := by
  obtain ⟨h1, rfl⟩ := List.getElem?_eq_some_iff.1 he
  obtain ⟨h2, rfl⟩ := List.getElem?_eq_some_iff.1 hf
  exact List.pairwise_iff_getElem.1 h i (i + 1) h1 h2 (by omega)
theorem or_in {w0 w : World} {g : Nat} {y : Wy} {r d s a : Int} {ln i : Nat} {ins : List Int} {u : Value} (size x : Int) (h : WyRun w0 w g y) (hu : Row w w0.heap.size u ins) (hI : OrIs r d s ln i a ins y) (hi : i < 200) (hr : 1000 ≤ r) (hrr : I64 r) (hs0 : 0 ≤ size) (hs1 : size ≤ 1500) (hx0 : 0 ≤ x) (hx1 : x ≤ 65535) (hd0 : 0 ≤ d) (hd1 : d ≤ 10000000) (hl : ln ≤ 1000) (hk0 : -281474976710656 ≤ s) (hk1 : s ≤ 281474976710656) :
    Calls Try.prog 11 #[.pointer (some ⟨g, 0, none⟩), .int .i64 (i : Int), .int .i64 size, .int .i64 (a + x)] w fun e w' => e = .returned (.bool true) ∧ ∃ y', WyRun w0 w' g y' ∧ OrIs r d s ln (i + 1) (a + x) (ins ++ [a + x]) y' ∧ Row w' w0.heap.size u ins := by
  have h1 := hI.l0
  have h2 := hI.a0
  have h3 := hI.a1
  have h4 := hI.len
  have h5 : I64 y.rate := by rw [hI.rate]; exact hrr
  refine (in_run2 (i : Int) size (a + x) h hu (by omega) (by omega) hs0 hs1 (by omega) (by omega) (by omega) h5).mono ?_
  rintro e w' ⟨he, hW, hu'⟩
  refine ⟨he, _, hW, ?_, hu'⟩
  rw [hI.rate]
  exact or_step size x hI hi hr hs0 hs1 hx0 hx1 hd0 hd1 hl hk0 hk1
theorem or_out {w0 w : World} {g : Nat} {y : Wy} {r d s a : Int} {ln i : Nat} {ins : List Int} {u : Value} (h : WyRun w0 w g y) (hu : Row w w0.heap.size u ins) (hI : OrIs r d s ln i a ins y) (hi : i ≤ 200) :
    Calls Try.prog 12 #[.pointer (some ⟨g, 0, none⟩), .int .i64 562949953421312] w fun e w' =>
      ∃ (A : Option Addr) (c : Nat), e = .returned (.slice A (outs d s y.q).length c) ∧ (outs d s y.q).length ≤ c ∧ cmD.C w' A (outs d s y.q).length (outs d s y.q) ∧ WyRR w0 w' g { y with q := [] } ∧ Row w' w0.heap.size u ins := by
  have hc := out_run2 562949953421312 h.rr hu (by rw [hI.len]; omega)
  rw [or_outs hI] at hc
  exact hc
theorem or_out2 {w0 w : World} {g : Nat} {y : Wy} (t : Int) (h : WyRR w0 w g { y with q := [] }) :
    Calls Try.prog 12 #[.pointer (some ⟨g, 0, none⟩), .int .i64 t] w fun e w' => ∃ (A : Option Addr) (c : Nat), e = .returned (.slice A 0 c) ∧ Below w0.heap.size w0 w' := by
  refine (out_run t h (by simp)).mono ?_
  rintro e w' ⟨A, c, he, _, _, h4⟩
  exact ⟨A, c, he, h4.b⟩
end Go.Proofs.Ytaghgjmcjmjfiaa.B
