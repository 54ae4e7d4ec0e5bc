/-
  A meter: a sample that counts is set at its place. Walk over the program.
-/
import Derived.Test.YtpmbacgdbnfeeaaRe
namespace Go.Proofs.Ytpmbacgdbnfeeaa.B
open Go.RowKit Go.Proofs.YtpmbacgdbnfeeaaW.PrintWords Go.Proofs.YtpmbacgdbnfeeaaW.PrintLast Go.Proofs.YtpmbacgdbnfeeaaW.PrintMore
set_option linter.unusedVariables false
set_option linter.unusedSimpArgs false
theorem mgot_trim_a (w0 : World) (base g : Nat) (bs : Option Nat) (window F1 L1 came size : Int) (vs : Value) (l : List Smp) (ls : List Bool) (h0 : 1 ≤ window) (h1 : window ≤ 1125899906842624) (h2 : -1125899906842624 ≤ L1) (h3 : L1 ≤ 1125899906842624)
    (hsz : ∀ p ∈ l, 0 ≤ p.2 ∧ p.2 ≤ 1500) (hlen : l.length ≤ 4096) (hsort : l.Pairwise SmpLe) (rest : Code) (hr : cut3 (cut3 (cut3 (Try.f10.body.getD .skip))) = rest) (a : Act) (w : World) (v : Value) (ha : a = gotF g came size (fun i => a.tmps.getD i undef)) (H : MwRun w0 w base g bs ⟨window, true, F1, L1, v, sumS l, vs⟩ l ls) :
    rest.wp Try.prog (bodyPost Try.prog Try.f10 (GotQ w0 base g bs window F1 L1 vs l ls)) a w := by
  rw [ha]
  exact mgot_trim w0 base g bs window F1 L1 came size vs l ls h0 h1 h2 h3 hsz hlen hsort rest hr _ w v H
theorem MwRun.app4 {w0 w w6 : World} {base g : Nat} {bs : Option Nat} {m : Mw} {l l2 : List Smp} {ls : List Bool} (h : MwRun w0 w base g bs m l ls) {v1 : Value} {n1 : Nat} {xs1 : List Value} (hr : RowV w base 56 2 v1 n1 xs1) (hf : ∀ k, v1.ownBlock = some k → w0.heap.size ≤ k) (hG : w.grownBy w6 v1.ownBlock) {v2 : Value} (hv : RowV w6 base 56 2 v2 l2.length (smpV l2)) :
    MwRun w0 (w6.setCell ⟨g, 4, none⟩ v2) base g bs { m with vl := v2 } l2 ls := by
  have h5 := blk_grown h.c hG (fun e => hr.ne h.c (by decide) e.symm)
  have hs : RowV w6 base 4 1 m.vs ls.length (boolV ls) := h.rs.keep (fun k hk hb hs => hG.block k (h.rs.lt hk).1 (fun e => by
    have := (hr.lt e.symm).2.2
    rw [hs] at this
    exact absurd this (by decide)))
  exact ⟨(blk_set h5 4 _).trans (by simp), h.b, row_setCell hv h5 (by decide) 4 _, row_setCell hs h5 (by decide) 4 _, (h.t.grown hG (fun k hk => .inr (hf k hk))).setCell (.inl (.inl rfl)) _⟩
theorem MwRun.grownNone {w0 w w5 : World} {base g : Nat} {bs : Option Nat} {m : Mw} {l : List Smp} {ls : List Bool} (h : MwRun w0 w base g bs m l ls) (hG : w.grownBy w5 none) : MwRun w0 w5 base g bs m l ls :=
  h.below ⟨hG.os, hG.tape, hG.output, hG.size, fun k hk => hG.block k hk (by simp)⟩
theorem news_of_row {w : World} {base : Nat} {e : TypeId} {sz b5 off5 n c : Nat} {xs : List Value} (h : RowV w base e sz (.slice (some ⟨b5, off5, none⟩) n c) n xs) (k : Nat) (hk : k ≤ n) : ∀ j u, (xs.drop (k * sz))[j]? = some u → w.cell? ((⟨b5, off5 + k * sz, none⟩ : Addr).add j) = some u := by
  intro j u hj
  obtain ⟨_, ⟨e, _⟩ | ⟨g, off, cap, e, _, _, _, _, hx, _⟩⟩ := h
  · cases e
  · injection e with e _ _
    injection e with e
    injection e with e1 e2
    subst e1 e2
    rw [List.getElem?_drop] at hj
    have := hx _ _ hj
    rw [Addr.add_lit, Nat.add_assoc]
    exact this
def smpPut (l : List Smp) (k : Nat) (x : Smp) : List Smp := l.take k ++ x :: l.drop k
theorem smpPut_sum (l : List Smp) (k : Nat) (x : Smp) : sumS (smpPut l k x) = sumS l + x.2 := by
  unfold smpPut
  rw [sumS_perm (ins_perm l k x), sumS_append, sumS_cons, sumS_nil]; omega
theorem smpPut_length (l : List Smp) (k : Nat) (x : Smp) : (smpPut l k x).length = l.length + 1 := by
  have h := (ins_perm l k x).length_eq
  unfold smpPut
  rw [h, List.length_append, List.length_singleton]
theorem smpPut_mem {l : List Smp} {k : Nat} {x p : Smp} (h : p ∈ smpPut l k x) : p ∈ l ∨ p = x := by
  have := (ins_perm l k x).mem_iff.1 h
  rcases List.mem_append.1 this with q | q
  · exact .inl q
  · exact .inr (List.mem_singleton.1 q)
theorem smpV_take1 (l : List Smp) (k : Nat) : smpV (l.take k) = (smpV l).take (k * 2) := (smpV_take l k).symm
theorem smpV_put (l : List Smp) (k : Nat) (came size : Int) : smpV (l.take k) ++ [.int .i64 came, .int .i64 size] ++ smpV (l.drop k) = smpV (smpPut l k (came, size)) := by
  unfold smpPut
  rw [smpV_append, smpV_cons, List.append_assoc]
  rfl
set_option maxHeartbeats 8000000 in
set_option maxRecDepth 100000 in
theorem mgot_ins_mid (w0 : World) (base g : Nat) (bs : Option Nat) (window F1 L1 came size : Int) (vs : Value) (l : List Smp) (ls : List Bool) (k b5 off5 c : Nat) (h0 : 1 ≤ window) (h1 : window ≤ 1125899906842624) (h2 : -1125899906842624 ≤ L1) (h3 : L1 ≤ 1125899906842624)
    (hsz : ∀ p ∈ l, 0 ≤ p.2 ∧ p.2 ≤ 1500) (hs0 : 0 ≤ size) (hs1 : size ≤ 1500) (hlen : l.length ≤ 4095) (hsort : (smpPut l k (came, size)).Pairwise SmpLe) (hk : k < l.length) (rest : Code) (hr : cut3 (cut3 (Try.f10.body.getD .skip)) = rest) (q : Nat → Value) (hq : q 6 = .int .i64 k) (w : World) (H : MwRun w0 w base g bs ⟨window, true, F1, L1, .slice (some ⟨b5, off5, none⟩) l.length c, sumS l, vs⟩ l ls) :
    rest.wp Try.prog (bodyPost Try.prog Try.f10 (GotQ w0 base g bs window F1 L1 vs (smpPut l k (came, size)) ls)) (gotF g came size q) w := by
  have e := hr.symm.trans (show cut3 (cut3 (Try.f10.body.getD .skip)) = .seq _ _ from rfl)
  subst e
  clear hr
  have hT := fun (a : Act) (w : World) (v : Value) => mgot_trim_a w0 base g bs window F1 L1 came size vs (smpPut l k (came, size)) ls h0 h1 h2 h3 (fun p hp => by rcases smpPut_mem hp with h | h; exact hsz p h; rw [h]; exact ⟨hs0, hs1⟩) (by rw [smpPut_length]; omega) hsort _ rfl a w v
  rw [smpPut_sum] at hT
  have hB := sumS_range hsz
  have HT := Aside0.mk hT
  clear hT hsort hsz
  obtain ⟨n, hn⟩ : ∃ n, n = l.length := ⟨_, rfl⟩
  obtain ⟨B, hBB⟩ : ∃ B, B = sumS l := ⟨_, rfl⟩
  rw [← hn] at hlen hB
  try rw [← hn] at hk
  try rw [← hn] at H
  rw [← hBB] at H hB HT
  have hB0 : 0 ≤ B := hB.1
  have hB1 : B ≤ 6142500 := by omega
  have HN := Aside0.mk hn
  have HBB := Aside0.mk hBB
  clear hn hBB hB
  have x4 := H.c4
  dsimp only at x4
  have hrl := H.rl
  dsimp only at hrl
  rw [← HN.out] at hrl
  have hform : ∀ A' cc, (.slice (some ⟨b5, off5, none⟩) n c : Value) = .slice A' n cc → n ≤ cc ∧ cc ≤ maxLen := by
    intro A' cc e
    obtain ⟨A, c', ec, h1, h2⟩ := hrl.form
    rw [ec] at e
    injection e with _ _ e
    subst e
    exact ⟨h1, h2⟩
  have HH := Aside0.mk H
  have HRL := Aside0.mk hrl
  have HQ := Aside0.mk hq
  clear H hrl hq
  have hnc := (hform _ _ rfl).1
  have hcm := (hform _ _ rfl).2
  have i0 : (0 : Int) ≤ (k : Int) := by omega
  have i1 : (k : Int) ≤ (c : Int) := by omega
  have i2 : (k : Int) ≤ (n : Int) := by omega
  have i3 : (n : Int) ≤ (c : Int) := by omega
  have HV90 : Aside0 (RowV (w.alloc (.cells #[.int .i64 came, .int .i64 size] 56)) base 56 2 (.slice (some ⟨b5, off5, none⟩) k k) k (smpV (l.take k))) := ⟨by
    have h := (HRL.out.below ((Below.refl _ _).alloc (Nat.le_refl _) (.cells #[.int .i64 came, .int .i64 size] 56))).cut 0 k k (by omega) (by omega) (by omega) (by omega) off5 (.inl (by omega))
    rw [smpV_take1]
    simpa using h⟩
  have ck : k < c := by omega
  have ck1 : ¬ (k = c) := by omega
  have ck2 : ¬ (c = k) := by omega
  clear hform
  have hbase : base ≤ (w.alloc (.cells #[.int .i64 came, .int .i64 size] 56)).heap.size := by have := HH.out.b; have := blk_lt HH.out.c; simp; omega
  have HBA := Aside0.mk hbase
  have HW := Aside0.mk (HH.out.below ((Below.refl _ _).alloc (Nat.le_refl _) (.cells #[.int .i64 came, .int .i64 size] 56)))
  clear hbase
  unfold gotF
  rw [HQ.out]

  go_upto_block 2 with (first | (at_builtin; refine row_append (w := w.alloc (.cells #[.int .i64 came, .int .i64 size] 56)) rfl (.tmp 90) (.tmp 94) 47 rfl 56 Try.t56 (.agg #[.int .i64 0, .int .i64 0]) 2 16 Try.underlying47 (by kernel_rfl) rfl rfl rfl (by decide) (by decide) base (.slice (some ⟨b5, off5, none⟩) k k) k (smpV (l.take k)) rfl HV90.out ⟨w.heap.size, 0, none⟩ 1 1 [.int .i64 came, .int .i64 size] rfl rfl (new_news w [.int .i64 came, .int .i64 size] 56) (by simp [Value.oneCell']) (by simp only [maxLen]; omega) (by omega) HBA.out ?_; intro v1 w5 hR5 hG5 hO5 hF5; obtain ⟨g5, o5, c5, rfl, hb5, hn5, hc5, hx5⟩ := hR5.some_ (by omega); obtain ⟨hG, hO⟩ := hF5 _ _ rfl (by omega); have HM5 := Aside0.mk (HW.out.grownNone hG); have HR5 := Aside0.mk hR5; have HO := Aside0.mk (hO g5 rfl); have z4 := HM5.out.c4; have z4f := HM5.out.f4; have z5 := HM5.out.c5; have z5f := HM5.out.f5; dsimp only at z4 z5; have HNW := Aside0.mk (news_of_row (by have h := HM5.out.rl; dsimp only at h; rw [← HN.out] at h; exact h) k (by omega)); have HBS := Aside0.mk (show base ≤ w5.heap.size by have := HM5.out.b; have := blk_lt HM5.out.c; omega); clear hx5 hR5 hG5 hO5 hF5 hG hO) | (at_builtin; go_loud (refine row_append (w := w5) rfl (.tmp 97) (.tmp 103) 47 rfl 56 Try.t56 (.agg #[.int .i64 0, .int .i64 0]) 2 16 Try.underlying47 (by kernel_rfl) rfl rfl rfl (by decide) (by decide) base (.slice (some ⟨g5, o5, none⟩) (k + 1) c5) (k + 1) (smpV (l.take k) ++ [.int .i64 came, .int .i64 size]) rfl HR5.out ⟨b5, off5 + k * 2, none⟩ (n - k) (c - k) (smpV (l.drop k)) rfl (by rw [smpV_length, List.length_drop, ← HN.out]) (by rw [← smpV_drop]; exact HNW.out) (smpV_one _) (by simp only [maxLen]; omega) (by omega) HBS.out ?_); intro v2 w6 hR6 hG6 hO6 hF6; obtain ⟨g6, o6, c6, rfl, hb6, hn6, hc6, hx6⟩ := hR6.some_ (by omega); have HR6 := Aside0.mk hR6; have HG6 := Aside0.mk hG6; have h6 := blk_grown HM5.out.c hG6 (fun e => HR5.out.ne HM5.out.c (by decide) e.symm); have y4 := blk_cell h6 4; have y4f := blk_frozen h6 4; have y5 := blk_cell h6 5; have y5f := blk_frozen h6 5; simp only [List.getElem?_toArray, List.getElem?_cons_zero, List.getElem?_cons_succ] at y4 y5; clear hx6 hR6 hG6 hO6 hF6 h6 z4 z4f z5 z5f))
  refine HT.out _ _ (.slice (some ⟨g6, o6, none⟩) (k + 1 + (n - k)) c6) rfl ?_
  have hvv : RowV w6 base 56 2 (.slice (some ⟨g6, o6, none⟩) (k + 1 + (n - k)) c6) (smpPut l k (came, size)).length (smpV (smpPut l k (came, size))) := by
    rw [smpPut_length, ← HN.out, ← smpV_put]
    rw [show n + 1 = k + 1 + (n - k) by omega]
    exact HR6.out
  have hown : ∀ j, (Value.slice (some ⟨g5, o5, none⟩) (k + 1) c5).ownBlock = some j → w0.heap.size ≤ j := by
    intro j hj
    have e : g5 = j := by injection hj
    have h1 := HO.out
    have h2 := HW.out.t.size
    omega
  exact (HM5.out.app4 HR5.out hown HG6.out hvv).s5 (B + size)
set_option maxHeartbeats 8000000 in
set_option maxRecDepth 100000 in
theorem mgot_ins_end (w0 : World) (base g : Nat) (bs : Option Nat) (window F1 L1 came size : Int) (vs : Value) (l : List Smp) (ls : List Bool) (k b5 off5 c : Nat) (h0 : 1 ≤ window) (h1 : window ≤ 1125899906842624) (h2 : -1125899906842624 ≤ L1) (h3 : L1 ≤ 1125899906842624)
    (hsz : ∀ p ∈ l, 0 ≤ p.2 ∧ p.2 ≤ 1500) (hs0 : 0 ≤ size) (hs1 : size ≤ 1500) (hlen : l.length ≤ 4095) (hsort : (smpPut l k (came, size)).Pairwise SmpLe) (hk : k = l.length) (rest : Code) (hr : cut3 (cut3 (Try.f10.body.getD .skip)) = rest) (q : Nat → Value) (hq : q 6 = .int .i64 k) (w : World) (H : MwRun w0 w base g bs ⟨window, true, F1, L1, .slice (some ⟨b5, off5, none⟩) l.length c, sumS l, vs⟩ l ls) :
    rest.wp Try.prog (bodyPost Try.prog Try.f10 (GotQ w0 base g bs window F1 L1 vs (smpPut l k (came, size)) ls)) (gotF g came size q) w := by
  have e := hr.symm.trans (show cut3 (cut3 (Try.f10.body.getD .skip)) = .seq _ _ from rfl)
  subst e
  clear hr
  have hT := fun (a : Act) (w : World) (v : Value) => mgot_trim_a w0 base g bs window F1 L1 came size vs (smpPut l k (came, size)) ls h0 h1 h2 h3 (fun p hp => by rcases smpPut_mem hp with h | h; exact hsz p h; rw [h]; exact ⟨hs0, hs1⟩) (by rw [smpPut_length]; omega) hsort _ rfl a w v
  rw [smpPut_sum] at hT
  have hB := sumS_range hsz
  have HT := Aside0.mk hT
  clear hT hsort hsz
  obtain ⟨n, hn⟩ : ∃ n, n = l.length := ⟨_, rfl⟩
  obtain ⟨B, hBB⟩ : ∃ B, B = sumS l := ⟨_, rfl⟩
  rw [← hn] at hlen hB
  try rw [← hn] at hk
  try rw [← hn] at H
  rw [← hBB] at H hB HT
  have hB0 : 0 ≤ B := hB.1
  have hB1 : B ≤ 6142500 := by omega
  have HN := Aside0.mk hn
  have HBB := Aside0.mk hBB
  clear hn hBB hB
  have x4 := H.c4
  dsimp only at x4
  have hrl := H.rl
  dsimp only at hrl
  rw [← HN.out] at hrl
  have hform : ∀ A' cc, (.slice (some ⟨b5, off5, none⟩) n c : Value) = .slice A' n cc → n ≤ cc ∧ cc ≤ maxLen := by
    intro A' cc e
    obtain ⟨A, c', ec, h1, h2⟩ := hrl.form
    rw [ec] at e
    injection e with _ _ e
    subst e
    exact ⟨h1, h2⟩
  have HH := Aside0.mk H
  have HRL := Aside0.mk hrl
  have HQ := Aside0.mk hq
  clear H hrl hq
  have hnc := (hform _ _ rfl).1
  have hcm := (hform _ _ rfl).2
  have i0 : (0 : Int) ≤ (k : Int) := by omega
  have i1 : (k : Int) ≤ (c : Int) := by omega
  have i2 : (k : Int) ≤ (n : Int) := by omega
  have i3 : (n : Int) ≤ (c : Int) := by omega
  have HV90 : Aside0 (RowV (w.alloc (.cells #[.int .i64 came, .int .i64 size] 56)) base 56 2 (.slice (some ⟨b5, off5, none⟩) k k) k (smpV (l.take k))) := ⟨by
    have h := (HRL.out.below ((Below.refl _ _).alloc (Nat.le_refl _) (.cells #[.int .i64 came, .int .i64 size] 56))).cut 0 k k (by omega) (by omega) (by omega) (by omega) off5 (.inl (by omega))
    rw [smpV_take1]
    simpa using h⟩
  obtain rfl : k = n := hk
  clear hform
  have hbase : base ≤ (w.alloc (.cells #[.int .i64 came, .int .i64 size] 56)).heap.size := by have := HH.out.b; have := blk_lt HH.out.c; simp; omega
  have HBA := Aside0.mk hbase
  have HW := Aside0.mk (HH.out.below ((Below.refl _ _).alloc (Nat.le_refl _) (.cells #[.int .i64 came, .int .i64 size] 56)))
  clear hbase
  unfold gotF
  rw [HQ.out]
  by_cases ck : c = k
  · have ck1 := ck.symm
    subst ck1
    go_upto_block 2 with (first | (at_builtin; refine row_append (w := w.alloc (.cells #[.int .i64 came, .int .i64 size] 56)) rfl (.tmp 90) (.tmp 94) 47 rfl 56 Try.t56 (.agg #[.int .i64 0, .int .i64 0]) 2 16 Try.underlying47 (by kernel_rfl) rfl rfl rfl (by decide) (by decide) base (.slice (some ⟨b5, off5, none⟩) k k) k (smpV (l.take k)) rfl HV90.out ⟨w.heap.size, 0, none⟩ 1 1 [.int .i64 came, .int .i64 size] rfl rfl (new_news w [.int .i64 came, .int .i64 size] 56) (by simp [Value.oneCell']) (by simp only [maxLen]; omega) (by omega) HBA.out ?_; intro v1 w5 hR5 hG5 hO5 hF5; obtain ⟨g5, o5, c5, rfl, hb5, hn5, hc5, hx5⟩ := hR5.some_ (by omega); obtain ⟨hG, hO⟩ := hF5 _ _ rfl (by omega); have HM5 := Aside0.mk (HW.out.grownNone hG); have HR5 := Aside0.mk hR5; have HO := Aside0.mk (hO g5 rfl); have z4 := HM5.out.c4; have z4f := HM5.out.f4; have z5 := HM5.out.c5; have z5f := HM5.out.f5; dsimp only at z4 z5; clear hx5 hR5 hG5 hO5 hF5 hG hO) | (at_builtin; refine row_append_none (w := w5) rfl (.tmp 97) (.tmp 103) 47 rfl 56 Try.t56 Try.underlying47 (by kernel_rfl) (some ⟨g5, o5, none⟩) _ (k + 1) c5 _ rfl rfl (by omega) ?_))
    refine HT.out _ _ (.slice (some ⟨g5, o5, none⟩) (k + 1) c5) rfl ?_
    have hvv : RowV w5 base 56 2 (.slice (some ⟨g5, o5, none⟩) (k + 1) c5) (smpPut l k (came, size)).length (smpV (smpPut l k (came, size))) := by
      rw [smpPut_length, ← HN.out, ← smpV_put]
      rw [show l.drop k = [] from List.drop_eq_nil_of_le (by rw [← HN.out]; omega), smpV_nil, List.append_nil]
      exact HR5.out
    have hown : ∀ j, (Value.slice (some ⟨g5, o5, none⟩) (k + 1) c5).ownBlock = some j → w0.heap.size ≤ j := by
      intro j hj
      have e : g5 = j := by injection hj
      have h1 := HO.out
      have h2 := HW.out.t.size
      omega
    exact (HM5.out.s4 hvv).s5 (B + size)
  · have ck1 : ¬ (k = c) := fun h => ck h.symm
    have ck2 : k < c := by omega
    go_upto_block 2 with (first | (at_builtin; refine row_append (w := w.alloc (.cells #[.int .i64 came, .int .i64 size] 56)) rfl (.tmp 90) (.tmp 94) 47 rfl 56 Try.t56 (.agg #[.int .i64 0, .int .i64 0]) 2 16 Try.underlying47 (by kernel_rfl) rfl rfl rfl (by decide) (by decide) base (.slice (some ⟨b5, off5, none⟩) k k) k (smpV (l.take k)) rfl HV90.out ⟨w.heap.size, 0, none⟩ 1 1 [.int .i64 came, .int .i64 size] rfl rfl (new_news w [.int .i64 came, .int .i64 size] 56) (by simp [Value.oneCell']) (by simp only [maxLen]; omega) (by omega) HBA.out ?_; intro v1 w5 hR5 hG5 hO5 hF5; obtain ⟨g5, o5, c5, rfl, hb5, hn5, hc5, hx5⟩ := hR5.some_ (by omega); obtain ⟨hG, hO⟩ := hF5 _ _ rfl (by omega); have HM5 := Aside0.mk (HW.out.grownNone hG); have HR5 := Aside0.mk hR5; have HO := Aside0.mk (hO g5 rfl); have z4 := HM5.out.c4; have z4f := HM5.out.f4; have z5 := HM5.out.c5; have z5f := HM5.out.f5; dsimp only at z4 z5; clear hx5 hR5 hG5 hO5 hF5 hG hO) | (at_builtin; refine row_append_none (w := w5) rfl (.tmp 97) (.tmp 103) 47 rfl 56 Try.t56 Try.underlying47 (by kernel_rfl) (some ⟨g5, o5, none⟩) _ (k + 1) c5 _ rfl rfl (by omega) ?_))
    refine HT.out _ _ (.slice (some ⟨g5, o5, none⟩) (k + 1) c5) rfl ?_
    have hvv : RowV w5 base 56 2 (.slice (some ⟨g5, o5, none⟩) (k + 1) c5) (smpPut l k (came, size)).length (smpV (smpPut l k (came, size))) := by
      rw [smpPut_length, ← HN.out, ← smpV_put]
      rw [show l.drop k = [] from List.drop_eq_nil_of_le (by rw [← HN.out]; omega), smpV_nil, List.append_nil]
      exact HR5.out
    have hown : ∀ j, (Value.slice (some ⟨g5, o5, none⟩) (k + 1) c5).ownBlock = some j → w0.heap.size ≤ j := by
      intro j hj
      have e : g5 = j := by injection hj
      have h1 := HO.out
      have h2 := HW.out.t.size
      omega
    exact (HM5.out.s4 hvv).s5 (B + size)
set_option maxHeartbeats 8000000 in
set_option maxRecDepth 100000 in
theorem mgot_ins_nil (w0 : World) (base g : Nat) (bs : Option Nat) (window F1 L1 came size : Int) (vs : Value) (l : List Smp) (ls : List Bool) (k : Nat) (h0 : 1 ≤ window) (h1 : window ≤ 1125899906842624) (h2 : -1125899906842624 ≤ L1) (h3 : L1 ≤ 1125899906842624)
    (hsz : ∀ p ∈ l, 0 ≤ p.2 ∧ p.2 ≤ 1500) (hs0 : 0 ≤ size) (hs1 : size ≤ 1500) (hlen : l.length ≤ 4095) (hsort : (smpPut l k (came, size)).Pairwise SmpLe) (hk : k = 0 ∧ l = []) (rest : Code) (hr : cut3 (cut3 (Try.f10.body.getD .skip)) = rest) (q : Nat → Value) (hq : q 6 = .int .i64 k) (w : World) (H : MwRun w0 w base g bs ⟨window, true, F1, L1, .slice none 0 0, sumS l, vs⟩ l ls) :
    rest.wp Try.prog (bodyPost Try.prog Try.f10 (GotQ w0 base g bs window F1 L1 vs (smpPut l k (came, size)) ls)) (gotF g came size q) w := by
  have e := hr.symm.trans (show cut3 (cut3 (Try.f10.body.getD .skip)) = .seq _ _ from rfl)
  subst e
  clear hr
  have hT := fun (a : Act) (w : World) (v : Value) => mgot_trim_a w0 base g bs window F1 L1 came size vs (smpPut l k (came, size)) ls h0 h1 h2 h3 (fun p hp => by rcases smpPut_mem hp with h | h; exact hsz p h; rw [h]; exact ⟨hs0, hs1⟩) (by rw [smpPut_length]; omega) hsort _ rfl a w v
  rw [smpPut_sum] at hT
  have hB := sumS_range hsz
  have HT := Aside0.mk hT
  clear hT hsort hsz
  obtain ⟨n, hn⟩ : ∃ n, n = l.length := ⟨_, rfl⟩
  obtain ⟨B, hBB⟩ : ∃ B, B = sumS l := ⟨_, rfl⟩
  rw [← hn] at hlen hB
  try rw [← hn] at hk
  try rw [← hn] at H
  rw [← hBB] at H hB HT
  have hB0 : 0 ≤ B := hB.1
  have hB1 : B ≤ 6142500 := by omega
  have HN := Aside0.mk hn
  have HBB := Aside0.mk hBB
  clear hn hBB hB
  have x4 := H.c4
  dsimp only at x4
  have hrl := H.rl
  dsimp only at hrl
  rw [← HN.out] at hrl
  have hform : ∀ A' cc, (.slice none 0 0 : Value) = .slice A' n cc → n ≤ cc ∧ cc ≤ maxLen := by
    intro A' cc e
    obtain ⟨A, c', ec, h1, h2⟩ := hrl.form
    rw [ec] at e
    injection e with _ _ e
    subst e
    exact ⟨h1, h2⟩
  have HH := Aside0.mk H
  have HRL := Aside0.mk hrl
  have HQ := Aside0.mk hq
  clear H hrl hq
  obtain ⟨rfl, rfl⟩ := hk
  obtain rfl : n = 0 := HN.out
  clear hform
  have HV90 : Aside0 (RowV (w.alloc (.cells #[.int .i64 came, .int .i64 size] 56)) base 56 2 (.slice none 0 0) 0 []) := ⟨RowV.nil _ _ _ _⟩
  have hbase : base ≤ (w.alloc (.cells #[.int .i64 came, .int .i64 size] 56)).heap.size := by have := HH.out.b; have := blk_lt HH.out.c; simp; omega
  have HBA := Aside0.mk hbase
  have HW := Aside0.mk (HH.out.below ((Below.refl _ _).alloc (Nat.le_refl _) (.cells #[.int .i64 came, .int .i64 size] 56)))
  clear hbase
  unfold gotF
  rw [HQ.out]

  go_upto_block 2 with (first | (at_builtin; refine row_append (w := w.alloc (.cells #[.int .i64 came, .int .i64 size] 56)) rfl (.tmp 90) (.tmp 94) 47 rfl 56 Try.t56 (.agg #[.int .i64 0, .int .i64 0]) 2 16 Try.underlying47 (by kernel_rfl) rfl rfl rfl (by decide) (by decide) base (.slice none 0 0) 0 [] rfl HV90.out ⟨w.heap.size, 0, none⟩ 1 1 [.int .i64 came, .int .i64 size] rfl rfl (new_news w [.int .i64 came, .int .i64 size] 56) (by simp [Value.oneCell']) (by simp only [maxLen]; omega) (by omega) HBA.out ?_; intro v1 w5 hR5 hG5 hO5 hF5; obtain ⟨g5, o5, c5, rfl, hb5, hn5, hc5, hx5⟩ := hR5.some_ (by omega); obtain ⟨hG, hO⟩ := hF5 _ _ rfl (by omega); have HM5 := Aside0.mk (HW.out.grownNone hG); have HR5 := Aside0.mk hR5; have HO := Aside0.mk (hO g5 rfl); have z4 := HM5.out.c4; have z4f := HM5.out.f4; have z5 := HM5.out.c5; have z5f := HM5.out.f5; dsimp only at z4 z5; clear hx5 hR5 hG5 hO5 hF5 hG hO) | (at_builtin; refine row_append_none (w := w5) rfl (.tmp 97) (.tmp 103) 47 rfl 56 Try.t56 Try.underlying47 (by kernel_rfl) (some ⟨g5, o5, none⟩) _ (0 + 1) c5 _ rfl rfl (by omega) ?_))
  refine HT.out _ _ (.slice (some ⟨g5, o5, none⟩) (0 + 1) c5) rfl ?_
  have hvv : RowV w5 base 56 2 (.slice (some ⟨g5, o5, none⟩) (0 + 1) c5) (smpPut [] 0 (came, size)).length (smpV (smpPut [] 0 (came, size))) := by
    rw [smpPut_length, ← HN.out, ← smpV_put]
    exact HR5.out
  have hown : ∀ j, (Value.slice (some ⟨g5, o5, none⟩) (0 + 1) c5).ownBlock = some j → w0.heap.size ≤ j := by
    intro j hj
    have e : g5 = j := by injection hj
    have h1 := HO.out
    have h2 := HW.out.t.size
    omega
  exact (HM5.out.s4 hvv).s5 (B + size)
end Go.Proofs.Ytpmbacgdbnfeeaa.B
