/-
  A meter as it lies in memory; its making, and what only looks at it. Walks over the program.
-/
import Derived.Test.YtpmbacgdbnfeeaaRa
import Derived.Test.YtpmbacgdbnfeeaaUn
import Derived.Test.YtpmbacgdbnfeeaaSa
namespace Go.Proofs.Ytpmbacgdbnfeeaa.B
open Go.RowKit Go.Proofs.YtpmbacgdbnfeeaaW.PrintWords Go.Proofs.YtpmbacgdbnfeeaaW.PrintLast Go.Proofs.YtpmbacgdbnfeeaaW.PrintMore
set_option linter.unusedVariables false
set_option linter.unusedSimpArgs false
/-- The meter's cells. -/
structure Mw where
  window : Int
  any : Bool
  first : Int
  last : Int
  vl : Value
  bytes : Int
  vs : Value
def smpV (l : List Smp) : List Value := l.flatMap (fun p => [.int .i64 p.1, .int .i64 p.2])
def boolV (l : List Bool) : List Value := l.map (fun b => .bool b)
theorem smpV_nil : smpV [] = [] := rfl
theorem smpV_cons (p : Smp) (l : List Smp) : smpV (p :: l) = .int .i64 p.1 :: .int .i64 p.2 :: smpV l := rfl
theorem smpV_append (a b : List Smp) : smpV (a ++ b) = smpV a ++ smpV b := by simp [smpV]
theorem smpV_length (l : List Smp) : (smpV l).length = l.length * 2 := by
  induction l with
  | nil => rfl
  | cons p r ih => rw [smpV_cons, List.length_cons, List.length_cons, List.length_cons, ih]; omega
theorem smpV_drop (l : List Smp) (k : Nat) : (smpV l).drop (k * 2) = smpV (l.drop k) := by
  induction k generalizing l with
  | zero => simp
  | succ k ih =>
    cases l with
    | nil => simp [smpV]
    | cons p r => rw [smpV_cons, show (k + 1) * 2 = k * 2 + 1 + 1 by omega, List.drop_succ_cons, List.drop_succ_cons, List.drop_succ_cons, ih]
theorem smpV_take (l : List Smp) (k : Nat) : (smpV l).take (k * 2) = smpV (l.take k) := by
  induction k generalizing l with
  | zero => simp [smpV]
  | succ k ih =>
    cases l with
    | nil => simp [smpV]
    | cons p r => rw [smpV_cons, show (k + 1) * 2 = k * 2 + 1 + 1 by omega, List.take_succ_cons, List.take_succ_cons, List.take_succ_cons, ih, smpV_cons]
theorem smpV_get {l : List Smp} {k : Nat} {p : Smp} (h : l[k]? = some p) : (smpV l)[k * 2]? = some (.int .i64 p.1) ∧ (smpV l)[k * 2 + 1]? = some (.int .i64 p.2) := by
  have e : smpV (l.drop k) = .int .i64 p.1 :: .int .i64 p.2 :: smpV (l.drop (k + 1)) := by
    obtain ⟨hk, hp⟩ := List.getElem?_eq_some_iff.1 h
    rw [List.drop_eq_getElem_cons hk, hp, smpV_cons]
  rw [← smpV_drop] at e
  have e0 := congrArg (fun x : List Value => x[0]?) e
  have e1 := congrArg (fun x : List Value => x[1]?) e
  simp only [List.getElem?_drop, List.getElem?_cons_zero, List.getElem?_cons_succ, Nat.add_zero] at e0 e1
  exact ⟨e0, e1⟩
theorem smpV_one (l : List Smp) : ∀ u ∈ smpV l, u.oneCell' = true := by
  intro u hu
  simp only [smpV, List.mem_flatMap] at hu
  obtain ⟨p, _, hp⟩ := hu
  simp only [List.mem_cons, List.not_mem_nil, or_false] at hp
  rcases hp with rfl | rfl <;> rfl
theorem boolV_length (l : List Bool) : (boolV l).length = l.length := by simp [boolV]
theorem boolV_get {l : List Bool} {k : Nat} {b : Bool} (h : l[k]? = some b) : (boolV l)[k]? = some (.bool b) := by simp [boolV, h]
theorem boolV_append (a b : List Bool) : boolV (a ++ b) = boolV a ++ boolV b := by simp [boolV]
theorem boolV_drop (l : List Bool) (k : Nat) : (boolV l).drop k = boolV (l.drop k) := by simp [boolV]
/-- What Below leaves, seen from a slice. -/
theorem RowV.touch {w w' : World} {S : Nat → Prop} {base : Nat} {e : TypeId} {sz : Nat} {v : Value} {n : Nat} {xs : List Value} (h : RowV w base e sz v n xs) (T : Touch S w w') (hS : ∀ k, v.ownBlock = some k → ¬ S k) : RowV w' base e sz v n xs :=
  h.keep (fun k hk _ _ => T.block k (h.lt hk).1 (hS k hk))
theorem RowV.below {w w' : World} {base : Nat} {e : TypeId} {sz : Nat} {v : Value} {n : Nat} {xs : List Value} (h : RowV w base e sz v n xs) (hb : Below w.heap.size w w') : RowV w' base e sz v n xs := h.touch (Touch.of_below (S := fun _ => False) hb) (fun _ _ hf => hf)
structure MwRun (w0 w : World) (base g : Nat) (bs : Option Nat) (m : Mw) (l : List Smp) (ls : List Bool) : Prop where
  c : w.heap[g]? = some (.cells #[.int .i64 m.window, .bool m.any, .int .i64 m.first, .int .i64 m.last, m.vl, .int .i64 m.bytes, m.vs] 50 (0, 0))
  b : base ≤ g
  rl : RowV w base 56 2 m.vl l.length (smpV l)
  rs : RowV w base 4 1 m.vs ls.length (boolV ls)
  t : Touch (fun k => k = g ∨ bs = some k) w0 w
theorem MwRun.below {w0 w w' : World} {base g : Nat} {bs : Option Nat} {m : Mw} {l : List Smp} {ls : List Bool} (h : MwRun w0 w base g bs m l ls) (hb : Below w.heap.size w w') : MwRun w0 w' base g bs m l ls :=
  ⟨(hb.block g (blk_lt h.c)).trans h.c, h.b, h.rl.below hb, h.rs.below hb, h.t.below hb⟩
theorem MwRun.drewn {w0 w : World} {base g : Nat} {bs : Option Nat} {m : Mw} {l : List Smp} {ls : List Bool} (h : MwRun w0 w base g bs m l ls) : MwRun w0 w.drew base g bs m l ls := h.below (Below.refl _ _).drew
theorem MwRun.drewnN {w0 w : World} {base g : Nat} {bs : Option Nat} {m : Mw} {l : List Smp} {ls : List Bool} (h : MwRun w0 w base g bs m l ls) (n : Nat) : MwRun w0 (w.drewN n) base g bs m l ls := h.below ((Below.refl _ _).trans ⟨rfl, rfl, rfl, Nat.le_refl _, fun _ _ => rfl⟩)
theorem MwRun.c0 {w0 w : World} {base g : Nat} {bs : Option Nat} {m : Mw} {l : List Smp} {ls : List Bool} (h : MwRun w0 w base g bs m l ls) : w.cell? ⟨g, 0, none⟩ = some (.int .i64 m.window) := by
  have := blk_cell h.c 0
  simp only [List.getElem?_toArray, List.getElem?_cons_zero, List.getElem?_cons_succ] at this
  exact this
theorem MwRun.f0 {w0 w : World} {base g : Nat} {bs : Option Nat} {m : Mw} {l : List Smp} {ls : List Bool} (h : MwRun w0 w base g bs m l ls) : w.frozen? ⟨g, 0, none⟩ = false := blk_frozen h.c 0
theorem MwRun.c1 {w0 w : World} {base g : Nat} {bs : Option Nat} {m : Mw} {l : List Smp} {ls : List Bool} (h : MwRun w0 w base g bs m l ls) : w.cell? ⟨g, 1, none⟩ = some (.bool m.any) := by
  have := blk_cell h.c 1
  simp only [List.getElem?_toArray, List.getElem?_cons_zero, List.getElem?_cons_succ] at this
  exact this
theorem MwRun.f1 {w0 w : World} {base g : Nat} {bs : Option Nat} {m : Mw} {l : List Smp} {ls : List Bool} (h : MwRun w0 w base g bs m l ls) : w.frozen? ⟨g, 1, none⟩ = false := blk_frozen h.c 1
theorem MwRun.c2 {w0 w : World} {base g : Nat} {bs : Option Nat} {m : Mw} {l : List Smp} {ls : List Bool} (h : MwRun w0 w base g bs m l ls) : w.cell? ⟨g, 2, none⟩ = some (.int .i64 m.first) := by
  have := blk_cell h.c 2
  simp only [List.getElem?_toArray, List.getElem?_cons_zero, List.getElem?_cons_succ] at this
  exact this
theorem MwRun.f2 {w0 w : World} {base g : Nat} {bs : Option Nat} {m : Mw} {l : List Smp} {ls : List Bool} (h : MwRun w0 w base g bs m l ls) : w.frozen? ⟨g, 2, none⟩ = false := blk_frozen h.c 2
theorem MwRun.c3 {w0 w : World} {base g : Nat} {bs : Option Nat} {m : Mw} {l : List Smp} {ls : List Bool} (h : MwRun w0 w base g bs m l ls) : w.cell? ⟨g, 3, none⟩ = some (.int .i64 m.last) := by
  have := blk_cell h.c 3
  simp only [List.getElem?_toArray, List.getElem?_cons_zero, List.getElem?_cons_succ] at this
  exact this
theorem MwRun.f3 {w0 w : World} {base g : Nat} {bs : Option Nat} {m : Mw} {l : List Smp} {ls : List Bool} (h : MwRun w0 w base g bs m l ls) : w.frozen? ⟨g, 3, none⟩ = false := blk_frozen h.c 3
theorem MwRun.c4 {w0 w : World} {base g : Nat} {bs : Option Nat} {m : Mw} {l : List Smp} {ls : List Bool} (h : MwRun w0 w base g bs m l ls) : w.cell? ⟨g, 4, none⟩ = some (m.vl) := by
  have := blk_cell h.c 4
  simp only [List.getElem?_toArray, List.getElem?_cons_zero, List.getElem?_cons_succ] at this
  exact this
theorem MwRun.f4 {w0 w : World} {base g : Nat} {bs : Option Nat} {m : Mw} {l : List Smp} {ls : List Bool} (h : MwRun w0 w base g bs m l ls) : w.frozen? ⟨g, 4, none⟩ = false := blk_frozen h.c 4
theorem MwRun.c5 {w0 w : World} {base g : Nat} {bs : Option Nat} {m : Mw} {l : List Smp} {ls : List Bool} (h : MwRun w0 w base g bs m l ls) : w.cell? ⟨g, 5, none⟩ = some (.int .i64 m.bytes) := by
  have := blk_cell h.c 5
  simp only [List.getElem?_toArray, List.getElem?_cons_zero, List.getElem?_cons_succ] at this
  exact this
theorem MwRun.f5 {w0 w : World} {base g : Nat} {bs : Option Nat} {m : Mw} {l : List Smp} {ls : List Bool} (h : MwRun w0 w base g bs m l ls) : w.frozen? ⟨g, 5, none⟩ = false := blk_frozen h.c 5
theorem MwRun.c6 {w0 w : World} {base g : Nat} {bs : Option Nat} {m : Mw} {l : List Smp} {ls : List Bool} (h : MwRun w0 w base g bs m l ls) : w.cell? ⟨g, 6, none⟩ = some (m.vs) := by
  have := blk_cell h.c 6
  simp only [List.getElem?_toArray, List.getElem?_cons_zero, List.getElem?_cons_succ] at this
  exact this
theorem MwRun.f6 {w0 w : World} {base g : Nat} {bs : Option Nat} {m : Mw} {l : List Smp} {ls : List Bool} (h : MwRun w0 w base g bs m l ls) : w.frozen? ⟨g, 6, none⟩ = false := blk_frozen h.c 6
theorem row_setCell {w : World} {base : Nat} {e : TypeId} {sz : Nat} {v : Value} {n : Nat} {xs : List Value} (h : RowV w base e sz v n xs) {g : Nat} {cs : Array Value} {tt : TypeId} {fr : Nat × Nat} (hg : w.heap[g]? = some (.cells cs tt fr)) (ht : tt ≠ e) (i : Nat) (u : Value) : RowV (w.setCell ⟨g, i, none⟩ u) base e sz v n xs :=
  h.keep (fun k hk _ _ => Below.heap_setCell w ⟨g, i, none⟩ u k (fun e => h.ne hg ht (by rw [hk, e])))
theorem MwRun.s0 {w0 w : World} {base g : Nat} {bs : Option Nat} {m : Mw} {l : List Smp} {ls : List Bool} (h : MwRun w0 w base g bs m l ls) (x : Int) : MwRun w0 (w.setCell ⟨g, 0, none⟩ (.int .i64 x)) base g bs { m with window := x } l ls :=
  ⟨(blk_set h.c 0 _).trans (by simp), h.b, row_setCell h.rl h.c (by decide) 0 _, row_setCell h.rs h.c (by decide) 0 _, h.t.setCell (.inl (.inl rfl)) _⟩
theorem MwRun.s1 {w0 w : World} {base g : Nat} {bs : Option Nat} {m : Mw} {l : List Smp} {ls : List Bool} (h : MwRun w0 w base g bs m l ls) (x : Bool) : MwRun w0 (w.setCell ⟨g, 1, none⟩ (.bool x)) base g bs { m with any := x } l ls :=
  ⟨(blk_set h.c 1 _).trans (by simp), h.b, row_setCell h.rl h.c (by decide) 1 _, row_setCell h.rs h.c (by decide) 1 _, h.t.setCell (.inl (.inl rfl)) _⟩
theorem MwRun.s2 {w0 w : World} {base g : Nat} {bs : Option Nat} {m : Mw} {l : List Smp} {ls : List Bool} (h : MwRun w0 w base g bs m l ls) (x : Int) : MwRun w0 (w.setCell ⟨g, 2, none⟩ (.int .i64 x)) base g bs { m with first := x } l ls :=
  ⟨(blk_set h.c 2 _).trans (by simp), h.b, row_setCell h.rl h.c (by decide) 2 _, row_setCell h.rs h.c (by decide) 2 _, h.t.setCell (.inl (.inl rfl)) _⟩
theorem MwRun.s3 {w0 w : World} {base g : Nat} {bs : Option Nat} {m : Mw} {l : List Smp} {ls : List Bool} (h : MwRun w0 w base g bs m l ls) (x : Int) : MwRun w0 (w.setCell ⟨g, 3, none⟩ (.int .i64 x)) base g bs { m with last := x } l ls :=
  ⟨(blk_set h.c 3 _).trans (by simp), h.b, row_setCell h.rl h.c (by decide) 3 _, row_setCell h.rs h.c (by decide) 3 _, h.t.setCell (.inl (.inl rfl)) _⟩
theorem MwRun.s5 {w0 w : World} {base g : Nat} {bs : Option Nat} {m : Mw} {l : List Smp} {ls : List Bool} (h : MwRun w0 w base g bs m l ls) (x : Int) : MwRun w0 (w.setCell ⟨g, 5, none⟩ (.int .i64 x)) base g bs { m with bytes := x } l ls :=
  ⟨(blk_set h.c 5 _).trans (by simp), h.b, row_setCell h.rl h.c (by decide) 5 _, row_setCell h.rs h.c (by decide) 5 _, h.t.setCell (.inl (.inl rfl)) _⟩
theorem MwRun.s4 {w0 w : World} {base g : Nat} {bs : Option Nat} {m : Mw} {l l2 : List Smp} {ls : List Bool} (h : MwRun w0 w base g bs m l ls) {v : Value} (hv : RowV w base 56 2 v l2.length (smpV l2)) : MwRun w0 (w.setCell ⟨g, 4, none⟩ v) base g bs { m with vl := v } l2 ls :=
  ⟨(blk_set h.c 4 _).trans (by simp), h.b, row_setCell hv h.c (by decide) 4 _, row_setCell h.rs h.c (by decide) 4 _, h.t.setCell (.inl (.inl rfl)) _⟩
theorem MwRun.s6 {w0 w : World} {base g : Nat} {bs : Option Nat} {m : Mw} {l : List Smp} {ls ls2 : List Bool} (h : MwRun w0 w base g bs m l ls) {v : Value} (hv : RowV w base 4 1 v ls2.length (boolV ls2)) : MwRun w0 (w.setCell ⟨g, 6, none⟩ v) base g bs { m with vs := v } l ls2 :=
  ⟨(blk_set h.c 6 _).trans (by simp), h.b, row_setCell h.rl h.c (by decide) 6 _, row_setCell hv h.c (by decide) 6 _, h.t.setCell (.inl (.inl rfl)) _⟩
/-- The meter, as it lies in memory: of its samples the order of their times. -/
def MtIs (w : World) (base g : Nat) (bs : Option Nat) (s : Mt) : Prop :=
  ∃ (l : List Smp) (vl vs : Value), l.Perm s.l ∧ l.Pairwise SmpLe ∧ vs.ownBlock = bs ∧ MwRun w w base g bs ⟨s.window, s.any, s.first, s.last, vl, sumS s.l, vs⟩ l s.ls
/-- What a call leaves of it. -/
def MtGo (w w' : World) (base g : Nat) (bs : Option Nat) (s : Mt) : Prop :=
  ∃ bs', MtIs w' base g bs' s ∧ Touch (fun k => k = g ∨ bs = some k) w w' ∧ (∀ k, bs' = some k → bs = some k ∨ w.heap.size ≤ k)
theorem MtIs.below {w w' : World} {base g : Nat} {bs : Option Nat} {s : Mt} (h : MtIs w base g bs s) (hb : Below w.heap.size w w') : MtIs w' base g bs s := by
  obtain ⟨l, vl, vs, h1, h2, h3, h4⟩ := h
  have h5 := h4.below hb
  exact ⟨l, vl, vs, h1, h2, h3, ⟨h5.c, h5.b, h5.rl, h5.rs, Touch.refl _ _⟩⟩
theorem MtIs.lt {w : World} {base g : Nat} {bs : Option Nat} {s : Mt} (h : MtIs w base g bs s) : g < w.heap.size ∧ base ≤ g := by
  obtain ⟨l, vl, vs, h1, h2, h3, h4⟩ := h
  exact ⟨blk_lt h4.c, h4.b⟩
theorem MtGo.then_ {w w1 w2 : World} {base g : Nat} {bs bs1 : Option Nat} {s2 : Mt} (h2 : Touch (fun k => k = g ∨ bs = some k) w w1) (h3 : ∀ k, bs1 = some k → bs = some k ∨ w.heap.size ≤ k) (k : MtGo w1 w2 base g bs1 s2) : MtGo w w2 base g bs s2 := by
  obtain ⟨bs2, k1, k2, k3⟩ := k
  refine ⟨bs2, k1, h2.trans k2 (fun i hi => ?_), fun j hj => ?_⟩
  · rcases hi with hi | hi
    · exact .inl (.inl hi)
    · rcases h3 i hi with q | q
      · exact .inl (.inr q)
      · exact .inr q
  · rcases k3 j hj with q | q
    · exact h3 j q
    · exact .inr (Nat.le_trans h2.size q)
theorem MtGo.refl {w : World} {base g : Nat} {bs : Option Nat} {s : Mt} (h : MtIs w base g bs s) : MtGo w w base g bs s := ⟨bs, h, Touch.refl _ _, fun k hk => .inl hk⟩
theorem MtGo.of_below {w w' : World} {base g : Nat} {bs : Option Nat} {s : Mt} (h : MtIs w base g bs s) (hb : Below w.heap.size w w') : MtGo w w' base g bs s := ⟨bs, h.below hb, Touch.of_below hb, fun k hk => .inl hk⟩
theorem mnew_good (window : Int) (base : Nat) (w : World) (h0 : 1 ≤ window) (h1 : window ≤ 1125899906842624) (hb : base ≤ w.heap.size) : Calls Try.prog 8 #[.int .i64 window] w fun e w' => ∃ g : Nat, e = .returned (.tuple #[.pointer (some ⟨g, 0, none⟩), .int .i64 0]) ∧ MtIs w' base g none (Mt.made window) ∧ w.heap.size ≤ g ∧ Below w.heap.size w w' := by
  have d1 : decide (window < 1) = false := by simp; omega
  have d2 : decide (1125899906842624 < window) = false := by simp; omega
  go_enter Try.func8, Try.ntmps8
  go_wp2
  all_goals go_ret2
  refine ⟨w.heap.size, rfl, ⟨[], .slice none 0 0, .slice none 0 0, List.Perm.refl _, List.Pairwise.nil, rfl, ⟨?_, hb, RowV.nil _ _ _ _, RowV.nil _ _ _ _, Touch.refl _ _⟩⟩, Nat.le_refl _, (Below.refl _ _).alloc (Nat.le_refl _) _⟩
  exact blk_new w _
theorem mnew_bad (window : Int) (w : World) (h : window < 1 ∨ 1125899906842624 < window) : Calls Try.prog 8 #[.int .i64 window] w fun e w' => e = .returned (.tuple #[.pointer none, .int .i64 1]) ∧ w' = w := by
  rcases h with h | h
  all_goals
    go_enter Try.func8, Try.ntmps8
    go_wp2
    all_goals go_ret2
    all_goals first | exact ⟨rfl, rfl⟩ | (exfalso; omega)
theorem mbytes_any {w : World} {base g : Nat} {bs : Option Nat} {s : Mt} (h : MtIs w base g bs s) : Calls Try.prog 16 #[.pointer (some ⟨g, 0, none⟩)] w fun e w' => e = .returned (.int .i64 (sumS s.l)) ∧ w' = w := by
  obtain ⟨l, vl, vs, _, _, _, h4⟩ := h
  have h5 := h4.c5
  generalize sumS s.l = BB at *
  clear h4
  go_enter Try.func16, Try.ntmps16
  go_wp2
  go_ret
  exact ⟨rfl, rfl⟩
theorem mbytes_nil (w : World) : Calls Try.prog 16 #[.pointer none] w fun e w' => e = .returned (.int .i64 0) ∧ w' = w := by
  go_enter Try.func16, Try.ntmps16
  go_wp2
  go_ret
  exact ⟨rfl, rfl⟩
set_option maxHeartbeats 4000000 in
theorem mfull_walk (w : World) (base g : Nat) (bs : Option Nat) (m : Mw) (l : List Smp) (ls : List Bool) (D : Int) (B : Bool) (H : Aside0 (MwRun w w base g bs m l ls))
    (CS : Aside0 (∀ w, Calls Try.prog 29 #[.int .i64 m.last, .int .i64 m.first] w fun e w' => e = .returned (.int .i64 D) ∧ Below w.heap.size w w')) (hB : Aside0 (decide (m.window ≤ D) = B)) :
    Calls Try.prog 18 #[.pointer (some ⟨g, 0, none⟩)] w fun e w' => e = .returned (.bool (m.any && B)) ∧ Below w.heap.size w w' := by
  cases ha : m.any
  · have h1 : w.cell? ⟨g, 1, none⟩ = some (.bool false) := H.out.c1.trans (by rw [ha])
    clear ha
    go_enter Try.func18, Try.ntmps18
    go_wp2_with fail
    go_quiet (fail)
    go_wp2_with fail
    go_ret
    exact ⟨rfl, (Below.refl _ _).trans ⟨rfl, rfl, rfl, Nat.le_refl _, fun _ _ => rfl⟩⟩
  · have h1 : w.cell? ⟨g, 1, none⟩ = some (.bool true) := H.out.c1.trans (by rw [ha])
    go_enter Try.func18, Try.ntmps18
    go_wp2_with fail
    refine start_ (n := 25) (S := fun w' => w'.cell? ⟨g, 3, none⟩ = some (.int .i64 m.last) ∧ w'.cell? ⟨g, 2, none⟩ = some (.int .i64 m.first) ∧ w'.cell? ⟨g, 0, none⟩ = some (.int .i64 m.window) ∧ w'.cell? ⟨g, 1, none⟩ = some (.bool true) ∧ Aside0 (Below w.heap.size w w')) (ds := []) #[false, false, false, false, false, false, false, false, false, false, false, false, false, false, false, false, false, false, false, false, false, false, false, false, false] (by kernel_rfl) rfl rfl ⟨(H.out.below (((Below.refl _ _).drew))).c3, (H.out.below (((Below.refl _ _).drew))).c2, (H.out.below (((Below.refl _ _).drew))).c0, (H.out.below (((Below.refl _ _).drew))).c1.trans (by rw [ha]), ⟨((Below.refl _ _).drew)⟩⟩ (fun hHeld => ?_)
    refine pure_ (i := 0) (N := some 3) (v := ?_) (a' := ?_) #[true, false, false, false, false, false, false, false, false, false, false, false, false, false, false, false, false, false, false, false, false, false, false, false, false] rfl rfl (by kernel_rfl) (fun _ _ _ h => h) (Or.inl ⟨by rfl, ?_⟩) ?_ ?_
    rotate_left
    · intro w'
      go_simp
      with_reducible rfl
    rotate_left
    · simp only [Act.put, List.setIfInBounds_toArray, List.set_cons_zero, List.set_cons_succ, i64_w, i32_w]
      rfl
    refine pure_ (i := 1) (N := some 4) (v := ?_) (a' := ?_) #[true, true, false, false, false, false, false, false, false, false, false, false, false, false, false, false, false, false, false, false, false, false, false, false, false] rfl rfl (by kernel_rfl) (fun _ _ _ h => h) (Or.inl ⟨by rfl, ?_⟩) ?_ ?_
    rotate_left
    · intro w'
      go_simp
      with_reducible rfl
    rotate_left
    · simp only [Act.put, List.setIfInBounds_toArray, List.set_cons_zero, List.set_cons_succ, i64_w, i32_w]
      rfl
    refine pure_ (i := 2) (N := some 5) (v := ?_) (a' := ?_) #[true, true, true, false, false, false, false, false, false, false, false, false, false, false, false, false, false, false, false, false, false, false, false, false, false] rfl rfl (by kernel_rfl) (fun _ _ _ h => h) (Or.inl ⟨by rfl, ?_⟩) ?_ ?_
    rotate_left
    · intro w'
      go_simp
      with_reducible rfl
    rotate_left
    · simp only [Act.put, List.setIfInBounds_toArray, List.set_cons_zero, List.set_cons_succ, i64_w, i32_w]
      rfl
    refine pure_ (i := 3) (N := some 6) (v := ?_) (a' := ?_) #[true, true, true, true, false, false, false, false, false, false, false, false, false, false, false, false, false, false, false, false, false, false, false, false, false] rfl rfl (by kernel_rfl) (fun _ _ _ h => h) (Or.inl ⟨by rfl, ?_⟩) ?_ ?_
    rotate_left
    · intro w'
      go_simp
      with_reducible rfl
    rotate_left
    · simp only [Act.put, List.setIfInBounds_toArray, List.set_cons_zero, List.set_cons_succ, i64_w, i32_w]
      rfl
    refine pure_ (i := 4) (N := some 7) (v := ?_) (a' := ?_) #[true, true, true, true, true, false, false, false, false, false, false, false, false, false, false, false, false, false, false, false, false, false, false, false, false] rfl rfl (by kernel_rfl) (fun _ _ _ h => h) (Or.inl ⟨by rfl, ?_⟩) ?_ ?_
    rotate_left
    · intro w'
      go_simp
      with_reducible rfl
    rotate_left
    · simp only [Act.put, List.setIfInBounds_toArray, List.set_cons_zero, List.set_cons_succ, i64_w, i32_w]
      rfl
    refine pure_ (i := 5) (N := some 8) (v := ?_) (a' := ?_) #[true, true, true, true, true, true, false, false, false, false, false, false, false, false, false, false, false, false, false, false, false, false, false, false, false] rfl rfl (by kernel_rfl) (fun _ _ _ h => h) (Or.inl ⟨by rfl, ?_⟩) ?_ ?_
    rotate_left
    · intro w'
      go_simp
      with_reducible rfl
    rotate_left
    · simp only [Act.put, List.setIfInBounds_toArray, List.set_cons_zero, List.set_cons_succ, i64_w, i32_w]
      rfl
    refine take_ (i := 6) (N := some 9) (v := ?_) (a' := ?_) #[true, true, true, true, true, true, true, false, false, false, false, false, false, false, false, false, false, false, false, false, false, false, false, false, false] rfl rfl (by kernel_rfl) (fun _ _ _ h => h) (Or.inl ⟨by rfl, ?_⟩) hHeld ?_ ?_
    rotate_left
    · rintro w' ⟨s0, s1, s2, s3, s4⟩
      go_simp
      with_reducible rfl
    rotate_left
    · simp only [Act.put, List.setIfInBounds_toArray, List.set_cons_zero, List.set_cons_succ, i64_w, i32_w]
      rfl
    refine pure_ (i := 7) (N := some 10) (v := ?_) (a' := ?_) #[true, true, true, true, true, true, true, true, false, false, false, false, false, false, false, false, false, false, false, false, false, false, false, false, false] rfl rfl (by kernel_rfl) (fun _ _ _ h => h) (Or.inl ⟨by rfl, ?_⟩) ?_ ?_
    rotate_left
    · intro w'
      go_simp
      with_reducible rfl
    rotate_left
    · simp only [Act.put, List.setIfInBounds_toArray, List.set_cons_zero, List.set_cons_succ, i64_w, i32_w]
      rfl
    refine pure_ (i := 8) (N := some 11) (v := ?_) (a' := ?_) #[true, true, true, true, true, true, true, true, true, false, false, false, false, false, false, false, false, false, false, false, false, false, false, false, false] rfl rfl (by kernel_rfl) (fun _ _ _ h => h) (Or.inl ⟨by rfl, ?_⟩) ?_ ?_
    rotate_left
    · intro w'
      go_simp
      with_reducible rfl
    rotate_left
    · simp only [Act.put, List.setIfInBounds_toArray, List.set_cons_zero, List.set_cons_succ, i64_w, i32_w]
      rfl
    refine pure_ (i := 9) (N := some 12) (v := ?_) (a' := ?_) #[true, true, true, true, true, true, true, true, true, true, false, false, false, false, false, false, false, false, false, false, false, false, false, false, false] rfl rfl (by kernel_rfl) (fun _ _ _ h => h) (Or.inl ⟨by rfl, ?_⟩) ?_ ?_
    rotate_left
    · intro w'
      go_simp
      with_reducible rfl
    rotate_left
    · simp only [Act.put, List.setIfInBounds_toArray, List.set_cons_zero, List.set_cons_succ, i64_w, i32_w]
      rfl
    refine pure_ (i := 10) (N := some 13) (v := ?_) (a' := ?_) #[true, true, true, true, true, true, true, true, true, true, true, false, false, false, false, false, false, false, false, false, false, false, false, false, false] rfl rfl (by kernel_rfl) (fun _ _ _ h => h) (Or.inl ⟨by rfl, ?_⟩) ?_ ?_
    rotate_left
    · intro w'
      go_simp
      with_reducible rfl
    rotate_left
    · simp only [Act.put, List.setIfInBounds_toArray, List.set_cons_zero, List.set_cons_succ, i64_w, i32_w]
      rfl
    refine pure_ (i := 11) (N := some 14) (v := ?_) (a' := ?_) #[true, true, true, true, true, true, true, true, true, true, true, true, false, false, false, false, false, false, false, false, false, false, false, false, false] rfl rfl (by kernel_rfl) (fun _ _ _ h => h) (Or.inl ⟨by rfl, ?_⟩) ?_ ?_
    rotate_left
    · intro w'
      go_simp
      with_reducible rfl
    rotate_left
    · simp only [Act.put, List.setIfInBounds_toArray, List.set_cons_zero, List.set_cons_succ, i64_w, i32_w]
      rfl
    refine pure_ (i := 13) (N := some 16) (v := ?_) (a' := ?_) #[true, true, true, true, true, true, true, true, true, true, true, true, false, true, false, false, false, false, false, false, false, false, false, false, false] rfl rfl (by kernel_rfl) (fun _ _ _ h => h) (Or.inl ⟨by rfl, ?_⟩) ?_ ?_
    rotate_left
    · intro w'
      go_simp
      with_reducible rfl
    rotate_left
    · simp only [Act.put, List.setIfInBounds_toArray, List.set_cons_zero, List.set_cons_succ, i64_w, i32_w]
      rfl
    refine pure_ (i := 14) (N := some 17) (v := ?_) (a' := ?_) #[true, true, true, true, true, true, true, true, true, true, true, true, false, true, true, false, false, false, false, false, false, false, false, false, false] rfl rfl (by kernel_rfl) (fun _ _ _ h => h) (Or.inl ⟨by rfl, ?_⟩) ?_ ?_
    rotate_left
    · intro w'
      go_simp
      with_reducible rfl
    rotate_left
    · simp only [Act.put, List.setIfInBounds_toArray, List.set_cons_zero, List.set_cons_succ, i64_w, i32_w]
      rfl
    refine pure_ (i := 15) (N := some 18) (v := ?_) (a' := ?_) #[true, true, true, true, true, true, true, true, true, true, true, true, false, true, true, true, false, false, false, false, false, false, false, false, false] rfl rfl (by kernel_rfl) (fun _ _ _ h => h) (Or.inl ⟨by rfl, ?_⟩) ?_ ?_
    rotate_left
    · intro w'
      go_simp
      with_reducible rfl
    rotate_left
    · simp only [Act.put, List.setIfInBounds_toArray, List.set_cons_zero, List.set_cons_succ, i64_w, i32_w]
      rfl
    refine pure_ (i := 18) (N := some 21) (v := ?_) (a' := ?_) #[true, true, true, true, true, true, true, true, true, true, true, true, false, true, true, true, false, false, true, false, false, false, false, false, false] rfl rfl (by kernel_rfl) (fun _ _ _ h => h) (Or.inl ⟨by rfl, ?_⟩) ?_ ?_
    rotate_left
    · intro w'
      go_simp
      with_reducible rfl
    rotate_left
    · simp only [Act.put, List.setIfInBounds_toArray, List.set_cons_zero, List.set_cons_succ, i64_w, i32_w]
      rfl
    refine pure_ (i := 19) (N := some 22) (v := ?_) (a' := ?_) #[true, true, true, true, true, true, true, true, true, true, true, true, false, true, true, true, false, false, true, true, false, false, false, false, false] rfl rfl (by kernel_rfl) (fun _ _ _ h => h) (Or.inl ⟨by rfl, ?_⟩) ?_ ?_
    rotate_left
    · intro w'
      go_simp
      with_reducible rfl
    rotate_left
    · simp only [Act.put, List.setIfInBounds_toArray, List.set_cons_zero, List.set_cons_succ, i64_w, i32_w]
      rfl
    refine pure_ (i := 20) (N := some 23) (v := ?_) (a' := ?_) #[true, true, true, true, true, true, true, true, true, true, true, true, false, true, true, true, false, false, true, true, true, false, false, false, false] rfl rfl (by kernel_rfl) (fun _ _ _ h => h) (Or.inl ⟨by rfl, ?_⟩) ?_ ?_
    rotate_left
    · intro w'
      go_simp
      with_reducible rfl
    rotate_left
    · simp only [Act.put, List.setIfInBounds_toArray, List.set_cons_zero, List.set_cons_succ, i64_w, i32_w]
      rfl
    refine take_ (i := 12) (N := some 15) (v := ?_) (a' := ?_) #[true, true, true, true, true, true, true, true, true, true, true, true, true, true, true, true, false, false, true, true, true, false, false, false, false] rfl rfl (by kernel_rfl) (fun _ _ _ h => h) (Or.inl ⟨by rfl, ?_⟩) hHeld ?_ ?_
    rotate_left
    · rintro w' ⟨s0, s1, s2, s3, s4⟩
      go_simp
      with_reducible rfl
    rotate_left
    · simp only [Act.put, List.setIfInBounds_toArray, List.set_cons_zero, List.set_cons_succ, i64_w, i32_w]
      rfl
    refine take_ (i := 16) (N := some 19) (v := ?_) (a' := ?_) #[true, true, true, true, true, true, true, true, true, true, true, true, true, true, true, true, true, false, true, true, true, false, false, false, false] rfl rfl (by kernel_rfl) (fun _ _ _ h => h) (Or.inl ⟨by rfl, ?_⟩) hHeld ?_ ?_
    rotate_left
    · rintro w' ⟨s0, s1, s2, s3, s4⟩
      go_simp
      with_reducible rfl
    rotate_left
    · simp only [Act.put, List.setIfInBounds_toArray, List.set_cons_zero, List.set_cons_succ, i64_w, i32_w]
      rfl
    refine take_ (i := 21) (N := some 24) (v := ?_) (a' := ?_) #[true, true, true, true, true, true, true, true, true, true, true, true, true, true, true, true, true, false, true, true, true, true, false, false, false] rfl rfl (by kernel_rfl) (fun _ _ _ h => h) (Or.inl ⟨by rfl, ?_⟩) hHeld ?_ ?_
    rotate_left
    · rintro w' ⟨s0, s1, s2, s3, s4⟩
      go_simp
      with_reducible rfl
    rotate_left
    · simp only [Act.put, List.setIfInBounds_toArray, List.set_cons_zero, List.set_cons_succ, i64_w, i32_w]
      rfl
    refine one_ (i := 17) (N := some 20) #[true, true, true, true, true, true, true, true, true, true, true, true, true, true, true, true, true, true, true, true, true, true, false, false, false] rfl rfl (by kernel_rfl) (by decide) (fun K hK => ?_)
    refine goes_ Try.func29 (by kernel_rfl) rfl #[.int .i64 m.last, .int .i64 m.first] (by rfl) rfl rfl (by simp only [List.map_toArray, List.map_cons, List.map_nil]; rfl) ?_
    with_reducible refine (CS.out _).mono ?_
    rintro e w3 ⟨rfl, hb⟩
    refine ⟨_, rfl, ?_⟩
    have hR3 := (hHeld.2.2.2.2.out).trans (hb.mono (hHeld.2.2.2.2.out).size)
    clear hb
    refine hK.out _ _ ⟨(H.out.below (hR3)).c3, (H.out.below (hR3)).c2, (H.out.below (hR3)).c0, (H.out.below (hR3)).c1.trans (by rw [ha]), ⟨hR3⟩⟩ (fun hHeld => ?_)
    clear hK K
    refine norm_ (a' := ?_) ?_ ?_
    rotate_left
    · show Act.put _ (some 20) _ = _
      simp only [Act.put, List.setIfInBounds_toArray, List.set_cons_zero, List.set_cons_succ, i64_w, i32_w]
      rfl
    refine pure_ (i := 22) (N := some 25) (v := ?_) (a' := ?_) #[true, true, true, true, true, true, true, true, true, true, true, true, true, true, true, true, true, true, true, true, true, true, true, false, false] rfl rfl (by kernel_rfl) (fun _ _ _ h => h) (Or.inl ⟨by rfl, ?_⟩) ?_ ?_
    rotate_left
    · intro w'
      go_simp
      with_reducible rfl
    rotate_left
    · simp only [Act.put, List.setIfInBounds_toArray, List.set_cons_zero, List.set_cons_succ, i64_w, i32_w]
      rfl
    refine pure_ (i := 23) (N := some 26) (v := ?_) (a' := ?_) #[true, true, true, true, true, true, true, true, true, true, true, true, true, true, true, true, true, true, true, true, true, true, true, true, false] rfl rfl (by kernel_rfl) (fun _ _ _ h => h) (Or.inl ⟨by rfl, ?_⟩) ?_ ?_
    rotate_left
    · intro w'
      go_simp
      with_reducible rfl
    rotate_left
    · simp only [Act.put, List.setIfInBounds_toArray, List.set_cons_zero, List.set_cons_succ, i64_w, i32_w]
      rfl
    refine pure_ (i := 24) (N := some 2) (v := ?_) (a' := ?_) #[true, true, true, true, true, true, true, true, true, true, true, true, true, true, true, true, true, true, true, true, true, true, true, true, true] rfl rfl (by kernel_rfl) (fun _ _ _ h => h) (Or.inl ⟨by rfl, ?_⟩) ?_ ?_
    rotate_left
    · intro w'
      go_simp
      with_reducible rfl
    rotate_left
    · simp only [Act.put, List.setIfInBounds_toArray, List.set_cons_zero, List.set_cons_succ, i64_w, i32_w]
      rfl
    refine done_ (by kernel_rfl) ?_
    rw [hB.out]
    go_wp2_with fail
    go_ret
    exact ⟨by simp, by assumption⟩
theorem mfull_any {w : World} {base g : Nat} {bs : Option Nat} {s : Mt} {k : Nat} (h : MtIs w base g bs s) (ho : MtOk s k) : Calls Try.prog 18 #[.pointer (some ⟨g, 0, none⟩)] w fun e w' => e = .returned (.bool s.full) ∧ Below w.heap.size w w' := by
  obtain ⟨l, vl, vs, _, _, _, h4⟩ := h
  obtain ⟨q1, q2, q3, q4, q5, _⟩ := ho
  exact mfull_walk w base g bs _ l s.ls (s.last - s.first) _ ⟨h4⟩ ⟨fun w => by
    have := sub_any s.last s.first ⟨by omega, by omega⟩ ⟨by omega, by omega⟩ w
    rw [hold_in (by omega) (by omega)] at this
    exact this⟩ ⟨rfl⟩
theorem mfull_nil (w : World) : Calls Try.prog 18 #[.pointer none] w fun e w' => e = .returned (.bool false) ∧ Below w.heap.size w w' := by
  go_enter Try.func18, Try.ntmps18
  go_wp2_with fail
  go_quiet (fail)
  go_wp2_with fail
  go_ret
  exact ⟨rfl, (Below.refl _ _).trans ⟨rfl, rfl, rfl, Nat.le_refl _, fun _ _ => rfl⟩⟩
end Go.Proofs.Ytpmbacgdbnfeeaa.B
