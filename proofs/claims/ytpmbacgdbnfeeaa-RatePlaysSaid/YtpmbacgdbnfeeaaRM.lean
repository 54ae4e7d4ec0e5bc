/-
  The texts Rr, Rl, Rm, Rn, Ru as one: see what stands ahead of each.
-/
import Derived.Test.YtpmbacgdbnfeeaaDe
import Derived.Test.YtpmbacgdbnfeeaaRh
import Derived.Test.YtpmbacgdbnfeeaaRi
import Derived.Test.YtpmbacgdbnfeeaaRk
namespace Go.Proofs.Ytpmbacgdbnfeeaa.B
open Go.RowKit Go.Proofs.YtpmbacgdbnfeeaaW.PrintWords Go.Proofs.YtpmbacgdbnfeeaaW.PrintLast Go.Proofs.YtpmbacgdbnfeeaaW.PrintMore
set_option linter.unusedVariables false
set_option linter.unusedSimpArgs false
theorem r4rate_any (a b : Int) (ha : I64 a) (hb : I64 b) (w : World) : Calls Try.prog 28 #[.int .i64 a, .int .i64 b] w fun e w' => e = .returned (.int .i64 (mdo a 8000000 b 1)) ∧ Below w.heap.size w w' := by
  have C := Aside0.mk (fun w => rdo_any a 8000000 b 1 ha (by decide) hb (by decide) w)
  clear ha hb
  generalize mdo a 8000000 b 1 = V at *
  go_enter Try.func28, Try.ntmps28
  have B0 : Aside0 (Below w.heap.size w w) := ⟨Below.refl _ _⟩
  go_wp2_with fail
  refine (C.out _).mono ?_
  rintro e v1 ⟨rfl, hb⟩
  have B1 := Aside0.mk (B0.out.trans (hb.mono B0.out.size))
  clear hb
  go_wp2_with fail
  go_ret
  exact ⟨rfl, B1.out⟩
/-- The reference's meter's cells. -/
structure Rw where
  window : Int
  vl : Value
  any : Bool
  last : Int
  first : Int
  vs : Value
def bi (b : Bool) : Int := if b = true then 1 else 0
def intV (l : List Bool) : List Value := l.map (fun b => .int .i64 (bi b))
theorem intV_length (l : List Bool) : (intV l).length = l.length := by simp [intV]
theorem intV_get {l : List Bool} {k : Nat} {b : Bool} (h : l[k]? = some b) : (intV l)[k]? = some (.int .i64 (bi b)) := by simp [intV, h]
theorem intV_append (a b : List Bool) : intV (a ++ b) = intV a ++ intV b := by simp [intV]
theorem intV_drop (l : List Bool) (k : Nat) : (intV l).drop k = intV (l.drop k) := by simp [intV]
theorem intV_one (l : List Bool) : ∀ u ∈ intV l, u.oneCell' = true := by
  intro u hu
  obtain ⟨b, _, e⟩ := List.mem_map.1 hu
  rw [← e]
  rfl
structure RwRun (w0 w : World) (base g : Nat) (m : Rw) (l : List Smp) (ls : List Bool) : Prop where
  c : w.heap[g]? = some (.cells #[.int .i64 m.window, m.vl, .bool m.any, .int .i64 m.last, .int .i64 m.first, m.vs] 53 (0, 0))
  b : base ≤ g
  rl : RowV w base 58 2 m.vl l.length (smpV l)
  rs : RowV w base 3 1 m.vs ls.length (intV ls)
  t : Touch (fun k => k = g) w0 w
theorem RwRun.below {w0 w w' : World} {base g : Nat} {m : Rw} {l : List Smp} {ls : List Bool} (h : RwRun w0 w base g m l ls) (hb : Below w.heap.size w w') : RwRun w0 w' base g m l ls :=
  ⟨(hb.block g (blk_lt h.c)).trans h.c, h.b, h.rl.below hb, h.rs.below hb, h.t.below hb⟩
theorem RwRun.drewn {w0 w : World} {base g : Nat} {m : Rw} {l : List Smp} {ls : List Bool} (h : RwRun w0 w base g m l ls) : RwRun w0 w.drew base g m l ls := h.below (Below.refl _ _).drew
theorem RwRun.drewnN {w0 w : World} {base g : Nat} {m : Rw} {l : List Smp} {ls : List Bool} (h : RwRun w0 w base g m l ls) (n : Nat) : RwRun w0 (w.drewN n) base g m l ls := h.below (pw_below_drewN (Below.refl _ _) n)
theorem RwRun.c0 {w0 w : World} {base g : Nat} {m : Rw} {l : List Smp} {ls : List Bool} (h : RwRun w0 w base g m l ls) : w.cell? ⟨g, 0, none⟩ = some (.int .i64 m.window) := by
  have := blk_cell h.c 0
  simp only [List.getElem?_toArray, List.getElem?_cons_zero, List.getElem?_cons_succ] at this
  exact this
theorem RwRun.f0 {w0 w : World} {base g : Nat} {m : Rw} {l : List Smp} {ls : List Bool} (h : RwRun w0 w base g m l ls) : w.frozen? ⟨g, 0, none⟩ = false := blk_frozen h.c 0
theorem RwRun.c1 {w0 w : World} {base g : Nat} {m : Rw} {l : List Smp} {ls : List Bool} (h : RwRun w0 w base g m l ls) : w.cell? ⟨g, 1, none⟩ = some (m.vl) := by
  have := blk_cell h.c 1
  simp only [List.getElem?_toArray, List.getElem?_cons_zero, List.getElem?_cons_succ] at this
  exact this
theorem RwRun.f1 {w0 w : World} {base g : Nat} {m : Rw} {l : List Smp} {ls : List Bool} (h : RwRun w0 w base g m l ls) : w.frozen? ⟨g, 1, none⟩ = false := blk_frozen h.c 1
theorem RwRun.c2 {w0 w : World} {base g : Nat} {m : Rw} {l : List Smp} {ls : List Bool} (h : RwRun w0 w base g m l ls) : w.cell? ⟨g, 2, none⟩ = some (.bool m.any) := by
  have := blk_cell h.c 2
  simp only [List.getElem?_toArray, List.getElem?_cons_zero, List.getElem?_cons_succ] at this
  exact this
theorem RwRun.f2 {w0 w : World} {base g : Nat} {m : Rw} {l : List Smp} {ls : List Bool} (h : RwRun w0 w base g m l ls) : w.frozen? ⟨g, 2, none⟩ = false := blk_frozen h.c 2
theorem RwRun.c3 {w0 w : World} {base g : Nat} {m : Rw} {l : List Smp} {ls : List Bool} (h : RwRun w0 w base g m l ls) : w.cell? ⟨g, 3, none⟩ = some (.int .i64 m.last) := by
  have := blk_cell h.c 3
  simp only [List.getElem?_toArray, List.getElem?_cons_zero, List.getElem?_cons_succ] at this
  exact this
theorem RwRun.f3 {w0 w : World} {base g : Nat} {m : Rw} {l : List Smp} {ls : List Bool} (h : RwRun w0 w base g m l ls) : w.frozen? ⟨g, 3, none⟩ = false := blk_frozen h.c 3
theorem RwRun.c4 {w0 w : World} {base g : Nat} {m : Rw} {l : List Smp} {ls : List Bool} (h : RwRun w0 w base g m l ls) : w.cell? ⟨g, 4, none⟩ = some (.int .i64 m.first) := by
  have := blk_cell h.c 4
  simp only [List.getElem?_toArray, List.getElem?_cons_zero, List.getElem?_cons_succ] at this
  exact this
theorem RwRun.f4 {w0 w : World} {base g : Nat} {m : Rw} {l : List Smp} {ls : List Bool} (h : RwRun w0 w base g m l ls) : w.frozen? ⟨g, 4, none⟩ = false := blk_frozen h.c 4
theorem RwRun.c5 {w0 w : World} {base g : Nat} {m : Rw} {l : List Smp} {ls : List Bool} (h : RwRun w0 w base g m l ls) : w.cell? ⟨g, 5, none⟩ = some (m.vs) := by
  have := blk_cell h.c 5
  simp only [List.getElem?_toArray, List.getElem?_cons_zero, List.getElem?_cons_succ] at this
  exact this
theorem RwRun.f5 {w0 w : World} {base g : Nat} {m : Rw} {l : List Smp} {ls : List Bool} (h : RwRun w0 w base g m l ls) : w.frozen? ⟨g, 5, none⟩ = false := blk_frozen h.c 5
theorem RwRun.s0 {w0 w : World} {base g : Nat} {m : Rw} {l : List Smp} {ls : List Bool} (h : RwRun w0 w base g m l ls) (x : Int) : RwRun w0 (w.setCell ⟨g, 0, none⟩ (.int .i64 x)) base g { m with window := x } l ls :=
  ⟨(blk_set h.c 0 _).trans (by simp), h.b, row_setCell h.rl h.c (by decide) 0 _, row_setCell h.rs h.c (by decide) 0 _, h.t.setCell (.inl rfl) _⟩
theorem RwRun.s2 {w0 w : World} {base g : Nat} {m : Rw} {l : List Smp} {ls : List Bool} (h : RwRun w0 w base g m l ls) (x : Bool) : RwRun w0 (w.setCell ⟨g, 2, none⟩ (.bool x)) base g { m with any := x } l ls :=
  ⟨(blk_set h.c 2 _).trans (by simp), h.b, row_setCell h.rl h.c (by decide) 2 _, row_setCell h.rs h.c (by decide) 2 _, h.t.setCell (.inl rfl) _⟩
theorem RwRun.s3 {w0 w : World} {base g : Nat} {m : Rw} {l : List Smp} {ls : List Bool} (h : RwRun w0 w base g m l ls) (x : Int) : RwRun w0 (w.setCell ⟨g, 3, none⟩ (.int .i64 x)) base g { m with last := x } l ls :=
  ⟨(blk_set h.c 3 _).trans (by simp), h.b, row_setCell h.rl h.c (by decide) 3 _, row_setCell h.rs h.c (by decide) 3 _, h.t.setCell (.inl rfl) _⟩
theorem RwRun.s4 {w0 w : World} {base g : Nat} {m : Rw} {l : List Smp} {ls : List Bool} (h : RwRun w0 w base g m l ls) (x : Int) : RwRun w0 (w.setCell ⟨g, 4, none⟩ (.int .i64 x)) base g { m with first := x } l ls :=
  ⟨(blk_set h.c 4 _).trans (by simp), h.b, row_setCell h.rl h.c (by decide) 4 _, row_setCell h.rs h.c (by decide) 4 _, h.t.setCell (.inl rfl) _⟩
theorem RwRun.s1 {w0 w : World} {base g : Nat} {m : Rw} {l l2 : List Smp} {ls : List Bool} (h : RwRun w0 w base g m l ls) {v : Value} (hv : RowV w base 58 2 v l2.length (smpV l2)) : RwRun w0 (w.setCell ⟨g, 1, none⟩ v) base g { m with vl := v } l2 ls :=
  ⟨(blk_set h.c 1 _).trans (by simp), h.b, row_setCell hv h.c (by decide) 1 _, row_setCell h.rs h.c (by decide) 1 _, h.t.setCell (.inl rfl) _⟩
theorem RwRun.s5 {w0 w : World} {base g : Nat} {m : Rw} {l : List Smp} {ls ls2 : List Bool} (h : RwRun w0 w base g m l ls) {v : Value} (hv : RowV w base 3 1 v ls2.length (intV ls2)) : RwRun w0 (w.setCell ⟨g, 5, none⟩ v) base g { m with vs := v } l ls2 :=
  ⟨(blk_set h.c 5 _).trans (by simp), h.b, row_setCell h.rl h.c (by decide) 5 _, row_setCell hv h.c (by decide) 5 _, h.t.setCell (.inl rfl) _⟩
theorem RwRun.grownNone {w0 w w5 : World} {base g : Nat} {m : Rw} {l : List Smp} {ls : List Bool} (h : RwRun w0 w base g m l ls) (hG : w.grownBy w5 none) : RwRun w0 w5 base g m l ls :=
  h.below ⟨hG.os, hG.tape, hG.output, hG.size, fun k hk => hG.block k hk (by simp)⟩
theorem below_new {w w1 w5 : World} {row : Option Nat} (hb : Below w.heap.size w w1) (hG : w1.grownBy w5 row) (hr : ∀ k, row = some k → w.heap.size ≤ k) : Below w.heap.size w w5 :=
  ⟨hG.os.trans hb.os, hG.tape.trans hb.tape, hG.output.trans hb.output, Nat.le_trans hb.size hG.size, fun k hk => (hG.block k (Nat.lt_of_lt_of_le hk hb.size) (fun e => by have := hr k e.symm; omega)).trans (hb.block k hk)⟩
theorem RowV.empty (w : World) (base : Nat) (e : TypeId) (sz : Nat) (hb : base ≤ w.heap.size) : RowV (w.alloc (.cells #[] e)) base e sz (.slice (some ⟨w.heap.size, 0, none⟩) 0 0) 0 [] :=
  ⟨by simp, .inr ⟨w.heap.size, 0, 0, rfl, hb, by simp only [World.shape?, blk_new w (.cells #[] e)]; rfl, Nat.le_refl _, Nat.zero_le _, fun j u h => (by simp at h), fun j h => (by simp at h)⟩⟩
set_option maxHeartbeats 4000000 in
theorem rnote_nil (w : World) (base g : Nat) (m : Rw) (l : List Smp) (b : Bool) (A : Option Addr) (c : Nat) (hvs : m.vs = .slice A 0 c) (h : RwRun w w base g m l []) :
    Calls Try.prog 26 #[.pointer (some ⟨g, 0, none⟩), .int .i64 (bi b)] w fun e w' => e = .returned (.tuple #[]) ∧ ∃ vs', RwRun w w' base g { m with vs := vs' } l (Mt.push [] b) := by
  have x5 := h.c5
  have x5f := h.f5
  rw [hvs] at x5
  have HH := Aside0.mk h
  have hlt := blk_lt h.c
  have hXX : ∃ X, X = bi b := ⟨_, rfl⟩
  obtain ⟨X, hX⟩ := hXX
  rw [← hX]
  have HX := Aside0.mk hX
  have hbb := h.b
  have HE : Aside0 (RowV ((w.alloc (.cells #[] 3)).alloc (.cells #[.int .i64 X] 3)) base 3 1 (.slice (some ⟨w.heap.size, 0, none⟩) 0 0) 0 []) := ⟨(RowV.empty w base 3 1 (by omega)).below ((Below.refl _ _).alloc (Nat.le_refl _) _)⟩
  have HN := new_news (w.alloc (.cells #[] 3)) [.int .i64 X] 3
  rw [show (w.alloc (.cells #[] 3)).heap.size = w.heap.size + 1 by simp] at HN
  have HNW := Aside0.mk HN
  have hB0 : Below w.heap.size w ((w.alloc (.cells #[] 3)).alloc (.cells #[.int .i64 X] 3)) := ((Below.refl _ _).alloc (Nat.le_refl _) _).alloc (by simp) _
  have HB0 := Aside0.mk hB0
  have HBA := Aside0.mk (show base ≤ ((w.alloc (.cells #[] 3)).alloc (.cells #[.int .i64 X] 3)).heap.size by simp; omega)
  clear h hvs hX HN hB0
  go_enter Try.func26, Try.ntmps26
  go_wp2_with (first | (at_builtin; (refine row_append_none (w := w.alloc (.cells #[] 3)) rfl (.tmp 5) (.tmp 9) 45 rfl 3 Try.t3 Try.underlying45 (by kernel_rfl) (some ⟨w.heap.size, 0, none⟩) A 0 0 c (by rfl) (by rfl) (by omega) ?_)) | (at_builtin; (refine row_append (w := (w.alloc (.cells #[] 3)).alloc (.cells #[.int .i64 X] 3)) rfl (.tmp 10) (.tmp 12) 45 rfl 3 Try.t3 (.int .i64 0) 1 8 Try.underlying45 (by kernel_rfl) rfl rfl rfl (by decide) (by decide) base (.slice (some ⟨w.heap.size, 0, none⟩) 0 0) 0 [] (by rfl) HE.out ⟨w.heap.size + 1, 0, none⟩ 1 1 [.int .i64 X] (by rfl) rfl HNW.out (by simp [Value.oneCell']) (by decide) (by decide) HBA.out ?_); intro v1 w6 hR6 hG6 hO6 hF6; obtain ⟨g6, o6, c6, rfl, hb6, hn6, hc6, hx6⟩ := hR6.some_ (by omega); have HB6 := Aside0.mk (below_new HB0.out hG6 (fun k hk => Nat.le_of_eq (by injection hk))); have HR6 := Aside0.mk hR6; have h6 := (HH.out.below HB6.out).c; have y5 := blk_cell h6 5; have y5f := blk_frozen h6 5; simp only [List.getElem?_toArray, List.getElem?_cons_zero, List.getElem?_cons_succ] at y5; clear hx6 hR6 hG6 hO6 hF6 h6 x5 x5f))
  go_end0
  have hv : RowV w6 base 3 1 (.slice (some ⟨g6, o6, none⟩) (0 + 1) c6) (Mt.push [] b).length (intV (Mt.push [] b)) := by
    have e : intV (Mt.push [] b) = [] ++ [.int .i64 X] := by rw [HX.out]; rfl
    rw [e]
    exact HR6.out
  exact ⟨rfl, _, (HH.out.below HB6.out).s5 hv⟩
set_option maxHeartbeats 4000000 in
theorem rnote_some (w : World) (base g : Nat) (m : Rw) (l : List Smp) (ls : List Bool) (b : Bool) (b5 off5 n c : Nat) (hvs : m.vs = .slice (some ⟨b5, off5, none⟩) n c) (hn : n = ls.length) (hn0 : 0 < n) (hn1 : n ≤ 64) (h : RwRun w w base g m l ls) :
    Calls Try.prog 26 #[.pointer (some ⟨g, 0, none⟩), .int .i64 (bi b)] w fun e w' => e = .returned (.tuple #[]) ∧ ∃ vs', RwRun w w' base g { m with vs := vs' } l (Mt.push ls b) := by
  have x5 := h.c5
  have x5f := h.f5
  rw [hvs] at x5
  have HH := Aside0.mk h
  have hlt := blk_lt h.c
  have hXX : ∃ X, X = bi b := ⟨_, rfl⟩
  obtain ⟨X, hX⟩ := hXX
  rw [← hX]
  have HX := Aside0.mk hX
  have HN := Aside0.mk hn
  have hbb := h.b
  have hrs : RowV w base 3 1 (.slice (some ⟨b5, off5, none⟩) n c) n (intV ls) := by have := h.rs; rw [hvs, ← hn] at this; exact this
  have hform : n ≤ c ∧ c ≤ maxLen := by
    obtain ⟨A2, c', ec, h1, h2⟩ := hrs.form
    injection ec with _ _ ec
    subst ec
    exact ⟨h1, h2⟩
  obtain ⟨hnc, hcm⟩ := hform
  have hBA : Below w.heap.size w (w.alloc (.cells #[] 3)) := (Below.refl _ _).alloc (Nat.le_refl _) _
  have HBA := Aside0.mk hBA
  have HE : Aside0 (RowV (w.alloc (.cells #[] 3)) base 3 1 (.slice (some ⟨w.heap.size, 0, none⟩) 0 0) 0 []) := ⟨RowV.empty w base 3 1 (by omega)⟩
  have HNW := Aside0.mk (news_of_row (hrs.below hBA) 0 (by omega))
  have HB1 := Aside0.mk (show base ≤ (w.alloc (.cells #[] 3)).heap.size by simp; omega)
  have hb5 : b5 < w.heap.size := hrs.lt rfl |>.1
  clear h hvs hX hn hrs hBA
  go_enter Try.func26, Try.ntmps26
  have hc64 : n = 64 ∨ n < 64 := by omega
  rcases hc64 with h64 | h64
  · subst h64
    go_upto_region 2 with (first | (at_builtin; (refine row_append (w := w.alloc (.cells #[] 3)) rfl (.tmp 5) (.tmp 9) 45 rfl 3 Try.t3 (.int .i64 0) 1 8 Try.underlying45 (by kernel_rfl) rfl rfl rfl (by decide) (by decide) base (.slice (some ⟨w.heap.size, 0, none⟩) 0 0) 0 [] (by rfl) HE.out ⟨b5, off5, none⟩ 64 c (intV ls) (by rfl) (by rw [intV_length, ← HN.out, Nat.mul_one]) (by have := HNW.out; simpa using this) (intV_one _) (by simp only [maxLen]; omega) (by omega) HB1.out ?_); intro v1 w5 hR5 hG5 hO5 hF5; obtain ⟨g5, o5, c5, rfl, hb5_, hn5, hc5, hx5⟩ := hR5.some_ (by omega); obtain ⟨hG, hO⟩ := hF5 _ _ rfl (by omega); have hB5 := below_new HBA.out hG (fun k hk => by cases hk); have HB5 := Aside0.mk hB5; have HO5 := Aside0.mk (show w.heap.size ≤ g5 by have := hO g5 rfl; simp at this; omega); have hR5b : RowV (w5.alloc (.cells #[.int .i64 X] 3)) base 3 1 (.slice (some ⟨g5, o5, none⟩) (0 + 64) c5) (0 + 64) ([] ++ intV ls) := hR5.below ((Below.refl _ _).alloc (Nat.le_refl _) _); rw [List.nil_append, Nat.zero_add] at hR5b; have HR5 := Aside0.mk hR5b; have HNX := Aside0.mk (new_news w5 [.int .i64 X] 3); have HB5b := Aside0.mk (show base ≤ (w5.alloc (.cells #[.int .i64 X] 3)).heap.size by have := hB5.size; simp; omega); have HB5c := Aside0.mk (hB5.alloc (o := .cells #[.int .i64 X] 3) hB5.size); have z5 := (HH.out.below hB5).c5; have z5f := (HH.out.below hB5).f5; rw [show (0 : Nat) + 64 = 64 from Nat.zero_add _]; clear hx5 hR5 hG5 hO5 hF5 hG hO hB5 hR5b hn5) | (at_builtin; (refine row_append (w := w5.alloc (.cells #[.int .i64 X] 3)) rfl (.tmp 10) (.tmp 12) 45 rfl 3 Try.t3 (.int .i64 0) 1 8 Try.underlying45 (by kernel_rfl) rfl rfl rfl (by decide) (by decide) base (.slice (some ⟨g5, o5, none⟩) 64 c5) 64 (intV ls) (by rfl) HR5.out ⟨w5.heap.size, 0, none⟩ 1 1 [.int .i64 X] (by rfl) rfl HNX.out (by simp [Value.oneCell']) (by simp only [maxLen]; omega) (by omega) HB5b.out ?_); intro v1 w6 hR6 hG6 hO6 hF6; obtain ⟨g6, o6, c6, rfl, hb6, hn6, hc6, hx6⟩ := hR6.some_ (by omega); have HB6 := Aside0.mk (below_new HB5c.out hG6 (fun k hk => Nat.le_trans HO5.out (Nat.le_of_eq (by injection hk)))); have HR6 := Aside0.mk hR6; have h6 := (HH.out.below HB6.out).c; have y5 := blk_cell h6 5; have y5f := blk_frozen h6 5; simp only [List.getElem?_toArray, List.getElem?_cons_zero, List.getElem?_cons_succ] at y5; clear hx6 hR6 hG6 hO6 hF6 h6))
    have hv : RowV w6 base 3 1 (.slice (some ⟨g6, o6, none⟩) (64 + 1) c6) (ls ++ [b]).length (intV (ls ++ [b])) := by
      rw [List.length_append, List.length_singleton, ← HN.out, intV_append]
      have h := HR6.out
      rw [HX.out] at h
      exact h
    have HW := Aside0.mk ((HH.out.below HB6.out).s5 hv)
    have w5c := HW.out.c5
    have w5f := HW.out.f5
    dsimp only at w5c
    clear hv y5 y5f z5 z5f x5 x5f
    generalize w6.setCell ⟨g, 5, none⟩ (.slice (some ⟨g6, o6, none⟩) (64 + 1) c6) = W at *
    have hc6 : 65 ≤ c6 := by omega
    have i1 : (1 : Int) ≤ (c6 : Int) := by omega
    have i2 : (65 : Int) ≤ (c6 : Int) := by omega
    have i3 : ¬ (c6 = 1) := by omega
    have i4 : (1 : Nat) < c6 := by omega
    have i5 : wrap64 1 = 1 := by unfold wrap64; omega
    have i6 : IntKind.i64.wrap 1 = 1 := by rw [i64_w]; exact i5
    refine start_ (n := 15) (S := fun w' => w'.cell? ⟨g, 5, none⟩ = some (.slice (some ⟨g6, o6, none⟩) 65 c6)) (ds := [14]) #[false, false, false, false, false, false, false, false, false, false, false, false, false, false, false] (by kernel_rfl) rfl rfl (w5c) (fun hHeld => ?_)
    refine pure_ (i := 0) (N := some 22) (v := ?_) (a' := ?_) #[true, false, false, false, false, false, false, false, false, false, false, false, false, false, false] rfl rfl (by kernel_rfl) (fun _ _ _ h => h) (Or.inl ⟨by rfl, ?_⟩) ?_ ?_
    rotate_left
    · intro w'
      go_simp
      with_reducible rfl
    rotate_left
    · simp only [Act.put, List.setIfInBounds_toArray, List.set_cons_zero, List.set_cons_succ, i64_w, i32_w]
      rfl
    refine pure_ (i := 1) (N := some 23) (v := ?_) (a' := ?_) #[true, true, false, false, false, false, false, false, false, false, false, false, false, false, false] rfl rfl (by kernel_rfl) (fun _ _ _ h => h) (Or.inl ⟨by rfl, ?_⟩) ?_ ?_
    rotate_left
    · intro w'
      go_simp
      with_reducible rfl
    rotate_left
    · simp only [Act.put, List.setIfInBounds_toArray, List.set_cons_zero, List.set_cons_succ, i64_w, i32_w]
      rfl
    refine pure_ (i := 2) (N := some 24) (v := ?_) (a' := ?_) #[true, true, true, false, false, false, false, false, false, false, false, false, false, false, false] rfl rfl (by kernel_rfl) (fun _ _ _ h => h) (Or.inl ⟨by rfl, ?_⟩) ?_ ?_
    rotate_left
    · intro w'
      go_simp
      with_reducible rfl
    rotate_left
    · simp only [Act.put, List.setIfInBounds_toArray, List.set_cons_zero, List.set_cons_succ, i64_w, i32_w]
      rfl
    refine pure_ (i := 3) (N := some 25) (v := ?_) (a' := ?_) #[true, true, true, true, false, false, false, false, false, false, false, false, false, false, false] rfl rfl (by kernel_rfl) (fun _ _ _ h => h) (Or.inl ⟨by rfl, ?_⟩) ?_ ?_
    rotate_left
    · intro w'
      go_simp
      with_reducible rfl
    rotate_left
    · simp only [Act.put, List.setIfInBounds_toArray, List.set_cons_zero, List.set_cons_succ, i64_w, i32_w]
      rfl
    refine pure_ (i := 5) (N := some 27) (v := ?_) (a' := ?_) #[true, true, true, true, false, true, false, false, false, false, false, false, false, false, false] rfl rfl (by kernel_rfl) (fun _ _ _ h => h) (Or.inl ⟨by rfl, ?_⟩) ?_ ?_
    rotate_left
    · intro w'
      go_simp
      with_reducible rfl
    rotate_left
    · simp only [Act.put, List.setIfInBounds_toArray, List.set_cons_zero, List.set_cons_succ, i64_w, i32_w]
      rfl
    refine pure_ (i := 6) (N := some 28) (v := ?_) (a' := ?_) #[true, true, true, true, false, true, true, false, false, false, false, false, false, false, false] rfl rfl (by kernel_rfl) (fun _ _ _ h => h) (Or.inl ⟨by rfl, ?_⟩) ?_ ?_
    rotate_left
    · intro w'
      go_simp
      with_reducible rfl
    rotate_left
    · simp only [Act.put, List.setIfInBounds_toArray, List.set_cons_zero, List.set_cons_succ, i64_w, i32_w]
      rfl
    refine pure_ (i := 7) (N := some 29) (v := ?_) (a' := ?_) #[true, true, true, true, false, true, true, true, false, false, false, false, false, false, false] rfl rfl (by kernel_rfl) (fun _ _ _ h => h) (Or.inl ⟨by rfl, ?_⟩) ?_ ?_
    rotate_left
    · intro w'
      go_simp
      with_reducible rfl
    rotate_left
    · simp only [Act.put, List.setIfInBounds_toArray, List.set_cons_zero, List.set_cons_succ, i64_w, i32_w]
      rfl
    refine take_ (i := 4) (N := some 26) (v := ?_) (a' := ?_) #[true, true, true, true, true, true, true, true, false, false, false, false, false, false, false] rfl rfl (by kernel_rfl) (fun _ _ _ h => h) (Or.inl ⟨by rfl, ?_⟩) hHeld ?_ ?_
    rotate_left
    · intro w' s0
      go_simp
      with_reducible rfl
    rotate_left
    · simp only [Act.put, List.setIfInBounds_toArray, List.set_cons_zero, List.set_cons_succ, i64_w, i32_w]
      rfl
    refine take_ (i := 8) (N := some 30) (v := ?_) (a' := ?_) #[true, true, true, true, true, true, true, true, true, false, false, false, false, false, false] rfl rfl (by kernel_rfl) (fun _ _ _ h => h) (Or.inl ⟨by rfl, ?_⟩) hHeld ?_ ?_
    rotate_left
    · intro w' s0
      go_simp
      with_reducible rfl
    rotate_left
    · simp only [Act.put, List.setIfInBounds_toArray, List.set_cons_zero, List.set_cons_succ, i64_w, i32_w]
      rfl
    refine pure_ (i := 9) (N := some 31) (v := ?_) (a' := ?_) #[true, true, true, true, true, true, true, true, true, true, false, false, false, false, false] rfl rfl (by kernel_rfl) (fun _ _ _ h => h) (Or.inl ⟨by rfl, ?_⟩) ?_ ?_
    rotate_left
    · intro w'
      go_simp
      with_reducible rfl
    rotate_left
    · simp only [Act.put, List.setIfInBounds_toArray, List.set_cons_zero, List.set_cons_succ, i64_w, i32_w]
      rfl
    refine pure_ (i := 10) (N := some 32) (v := ?_) (a' := ?_) #[true, true, true, true, true, true, true, true, true, true, true, false, false, false, false] rfl rfl (by kernel_rfl) (fun _ _ _ h => h) (Or.inl ⟨by rfl, ?_⟩) ?_ ?_
    rotate_left
    · intro w'
      go_simp
      with_reducible rfl
    rotate_left
    · simp only [Act.put, List.setIfInBounds_toArray, List.set_cons_zero, List.set_cons_succ, i64_w, i32_w]
      rfl
    refine pure_ (i := 11) (N := some 33) (v := ?_) (a' := ?_) #[true, true, true, true, true, true, true, true, true, true, true, true, false, false, false] rfl rfl (by kernel_rfl) (fun _ _ _ h => h) (Or.inl ⟨by rfl, ?_⟩) ?_ ?_
    rotate_left
    · intro w'
      go_simp
      with_reducible rfl
    rotate_left
    · simp only [Act.put, List.setIfInBounds_toArray, List.set_cons_zero, List.set_cons_succ, i64_w, i32_w]
      rfl
    refine pure_ (i := 12) (N := some 34) (v := ?_) (a' := ?_) #[true, true, true, true, true, true, true, true, true, true, true, true, true, false, false] rfl rfl (by kernel_rfl) (fun _ _ _ h => h) (Or.inl ⟨by rfl, ?_⟩) ?_ ?_
    rotate_left
    · intro w'
      go_simp
      with_reducible rfl
    rotate_left
    · simp only [Act.put, List.setIfInBounds_toArray, List.set_cons_zero, List.set_cons_succ, i64_w, i32_w]
      rfl
    refine pure_ (i := 13) (N := some 35) (v := ?_) (a' := ?_) #[true, true, true, true, true, true, true, true, true, true, true, true, true, true, false] rfl rfl (by kernel_rfl) (fun _ _ _ h => h) (Or.inl ⟨by rfl, ?_⟩) ?_ ?_
    rotate_left
    · intro w'
      go_simp
      with_reducible rfl
    rotate_left
    · simp only [Act.put, List.setIfInBounds_toArray, List.set_cons_zero, List.set_cons_succ, i64_w, i32_w]
      rfl
    refine last_ (i := 14) (N := none) #[true, true, true, true, true, true, true, true, true, true, true, true, true, true, true] rfl rfl (by kernel_rfl) (by decide) (fun K hK => ?_)
    refine skip_ (w1 := ?_) (by rfl) rfl ?_ ?_
    rotate_left
    · go_simp
      rfl
    refine hK.out _ _ ?_
    clear hK K
    refine done_ (by kernel_rfl) ?_
    go_end0
    have hcut := HW.out.drewn.rs
    dsimp only at hcut
    rw [show (ls ++ [b]).length = 65 by rw [List.length_append, List.length_singleton, ← HN.out]] at hcut
    have hv2 := hcut.cut 1 65 c6 (by omega) (by omega) (by omega) (by omega) (o6 + 1) (.inl (by omega))
    have e1 : ((intV (ls ++ [b])).drop (1 * 1)).take ((65 - 1) * 1) = intV (Mt.push ls b) := by
      unfold Mt.push
      rw [Nat.mul_one, Nat.mul_one, intV_drop, ← HN.out]
      refine List.take_of_length_le ?_
      rw [intV_length, List.length_drop, List.length_append, ← HN.out, List.length_singleton]
      omega
    have e2 : (Mt.push ls b).length = 65 - 1 := by
      unfold Mt.push
      rw [List.length_drop, List.length_append, ← HN.out, List.length_singleton]
    rw [e1] at hv2
    exact ⟨rfl, _, (HW.out.s5 (ls2 := Mt.push ls b) (v := .slice (some ⟨g6, o6 + 1, none⟩) 64 (c6 - 1)) (by rw [e2]; exact hv2.below0)).drewn⟩
  · go_wp2_with (first | (at_builtin; (refine row_append (w := w.alloc (.cells #[] 3)) rfl (.tmp 5) (.tmp 9) 45 rfl 3 Try.t3 (.int .i64 0) 1 8 Try.underlying45 (by kernel_rfl) rfl rfl rfl (by decide) (by decide) base (.slice (some ⟨w.heap.size, 0, none⟩) 0 0) 0 [] (by rfl) HE.out ⟨b5, off5, none⟩ n c (intV ls) (by rfl) (by rw [intV_length, ← HN.out, Nat.mul_one]) (by have := HNW.out; simpa using this) (intV_one _) (by simp only [maxLen]; omega) (by omega) HB1.out ?_); intro v1 w5 hR5 hG5 hO5 hF5; obtain ⟨g5, o5, c5, rfl, hb5_, hn5, hc5, hx5⟩ := hR5.some_ (by omega); obtain ⟨hG, hO⟩ := hF5 _ _ rfl (by omega); have hB5 := below_new HBA.out hG (fun k hk => by cases hk); have HB5 := Aside0.mk hB5; have HO5 := Aside0.mk (show w.heap.size ≤ g5 by have := hO g5 rfl; simp at this; omega); have hR5b : RowV (w5.alloc (.cells #[.int .i64 X] 3)) base 3 1 (.slice (some ⟨g5, o5, none⟩) (0 + n) c5) (0 + n) ([] ++ intV ls) := hR5.below ((Below.refl _ _).alloc (Nat.le_refl _) _); rw [List.nil_append, Nat.zero_add] at hR5b; have HR5 := Aside0.mk hR5b; have HNX := Aside0.mk (new_news w5 [.int .i64 X] 3); have HB5b := Aside0.mk (show base ≤ (w5.alloc (.cells #[.int .i64 X] 3)).heap.size by have := hB5.size; simp; omega); have HB5c := Aside0.mk (hB5.alloc (o := .cells #[.int .i64 X] 3) hB5.size); have z5 := (HH.out.below hB5).c5; have z5f := (HH.out.below hB5).f5; rw [show (0 : Nat) + n = n from Nat.zero_add _]; clear hx5 hR5 hG5 hO5 hF5 hG hO hB5 hR5b hn5) | (at_builtin; (refine row_append (w := w5.alloc (.cells #[.int .i64 X] 3)) rfl (.tmp 10) (.tmp 12) 45 rfl 3 Try.t3 (.int .i64 0) 1 8 Try.underlying45 (by kernel_rfl) rfl rfl rfl (by decide) (by decide) base (.slice (some ⟨g5, o5, none⟩) n c5) n (intV ls) (by rfl) HR5.out ⟨w5.heap.size, 0, none⟩ 1 1 [.int .i64 X] (by rfl) rfl HNX.out (by simp [Value.oneCell']) (by simp only [maxLen]; omega) (by omega) HB5b.out ?_); intro v1 w6 hR6 hG6 hO6 hF6; obtain ⟨g6, o6, c6, rfl, hb6, hn6, hc6, hx6⟩ := hR6.some_ (by omega); have HB6 := Aside0.mk (below_new HB5c.out hG6 (fun k hk => Nat.le_trans HO5.out (Nat.le_of_eq (by injection hk)))); have HR6 := Aside0.mk hR6; have h6 := (HH.out.below HB6.out).c; have y5 := blk_cell h6 5; have y5f := blk_frozen h6 5; simp only [List.getElem?_toArray, List.getElem?_cons_zero, List.getElem?_cons_succ] at y5; clear hx6 hR6 hG6 hO6 hF6 h6))
    go_end0
    have hv : RowV w6 base 3 1 (.slice (some ⟨g6, o6, none⟩) (n + 1) c6) (Mt.push ls b).length (intV (Mt.push ls b)) := by
      have e : Mt.push ls b = ls ++ [b] := by
        unfold Mt.push
        rw [← HN.out, show n + 1 - 64 = 0 by omega, List.drop_zero]
      rw [e, List.length_append, List.length_singleton, ← HN.out, intV_append]
      have h := HR6.out
      rw [HX.out] at h
      exact h
    exact ⟨rfl, _, (HH.out.below HB6.out).s5 hv⟩
theorem rnote_any {w w0 : World} {base g : Nat} {m : Rw} {l : List Smp} {ls : List Bool} (b : Bool) (h : RwRun w0 w base g m l ls) (hl : ls.length ≤ 64) : Calls Try.prog 26 #[.pointer (some ⟨g, 0, none⟩), .int .i64 (bi b)] w fun e w' => e = .returned (.tuple #[]) ∧ ∃ vs', RwRun w0 w' base g { m with vs := vs' } l (Mt.push ls b) := by
  have h' : RwRun w w base g m l ls := ⟨h.c, h.b, h.rl, h.rs, Touch.refl _ _⟩
  have hgo : ∀ (e : Ending) (w' : World), (e = .returned (.tuple #[]) ∧ ∃ vs', RwRun w w' base g { m with vs := vs' } l (Mt.push ls b)) → (e = .returned (.tuple #[]) ∧ ∃ vs', RwRun w0 w' base g { m with vs := vs' } l (Mt.push ls b)) := by
    rintro e w' ⟨he, vs', k⟩
    exact ⟨he, vs', ⟨k.c, k.b, k.rl, k.rs, h.t.trans k.t (fun i hi => .inl hi)⟩⟩
  obtain ⟨A, c, hvs, hnc, hcm⟩ := h.rs.form
  by_cases hz : ls.length = 0
  · obtain rfl : ls = [] := List.eq_nil_of_length_eq_zero hz
    exact (rnote_nil w base g m l b A c hvs h').mono hgo
  · obtain ⟨b5, off5, c', hv2, _⟩ := h.rs.some_ (by omega)
    exact (rnote_some w base g m l ls b b5 off5 ls.length c' hv2 rfl (by omega) hl h').mono hgo
def RMtGo (w0 w : World) (base g : Nat) (s : Mt) : Prop := ∃ vl vs, RwRun w0 w base g ⟨s.window, vl, s.any, s.last, s.first, vs⟩ s.l s.ls
def rgotF (g : Nat) (came size : Int) (q : Nat → Value) : Act := { tmps := #[.pointer (some ⟨g, 0, none⟩), .int .i64 came, .int .i64 size, q 3, q 4, q 5, q 6, q 7, q 8, q 9, q 10, q 11, q 12, q 13, q 14, q 15, q 16, q 17, q 18, q 19, q 20, q 21, q 22, q 23, q 24, q 25, q 26, q 27, q 28, q 29, q 30, q 31, q 32, q 33, q 34, q 35, q 36, q 37, q 38, q 39, q 40, q 41, q 42, q 43, q 44, q 45, q 46, q 47, q 48, q 49, q 50, q 51, q 52, q 53, q 54, q 55, q 56, q 57, q 58, q 59, q 60, q 61, q 62, q 63, q 64, q 65, q 66, q 67, q 68, q 69, q 70, q 71, q 72, q 73, q 74, q 75, q 76, q 77, q 78, q 79, q 80, q 81, q 82, q 83, q 84, q 85, q 86, q 87, q 88, q 89, q 90, q 91, q 92, q 93, q 94, q 95, q 96, q 97, q 98, q 99, q 100, q 101, q 102, q 103, q 104, q 105, q 106, q 107, q 108, q 109, q 110, q 111, q 112, q 113, q 114, q 115, q 116, q 117, q 118, q 119, q 120, q 121, q 122, q 123, q 124, q 125, q 126, q 127, q 128, q 129, q 130, q 131, q 132, q 133, q 134], defers := [] }
def RGQ (w0 : World) (base g : Nat) (window F1 L1 : Int) (vs : Value) (xs : List Smp) (ls : List Bool) (e : Ending) (w' : World) : Prop :=
  e = .returned (.tuple #[]) ∧ ∃ vl', RwRun w0 w' base g ⟨window, vl', true, L1, F1, vs⟩ (xs.filter (fun p => decide (L1 - window < p.1))) ls
def RFRel (w6 : World) (base : Nat) (P : Smp → Bool) (xs : List Smp) (v7 v8 : Value) (wr : World) : Prop := ∃ i : Nat, v8 = .int .i64 i ∧ i ≤ xs.length ∧ Aside0 (RowV wr base 58 2 v7 ((xs.take i).filter P).length (smpV ((xs.take i).filter P))) ∧ Aside0 (∀ k, v7.ownBlock = some k → w6.heap.size ≤ k) ∧ Aside0 (Below w6.heap.size w6 wr)
set_option maxHeartbeats 8000000 in
set_option maxRecDepth 100000 in
theorem rgot_filter (w0 : World) (base g : Nat) (window F1 L1 came size : Int) (vl vs : Value) (l xs : List Smp) (ls : List Bool) (g6 o6 c6 : Nat) (h0 : 1 ≤ window) (h1 : window ≤ 1125899906842624) (h2 : -1125899906842624 ≤ L1) (h3 : L1 ≤ 1125899906842624) (hlen : xs.length ≤ 4096)
    (rest : Code) (hr : tl1 (tl1 (cut3 (Try.f11.body.getD .skip))) = rest) (q : Nat → Value) (hq : q 6 = .slice (some ⟨g6, o6, none⟩) xs.length c6) (w : World) (H : RwRun w0 w base g ⟨window, vl, true, L1, F1, vs⟩ l ls) (HV : RowV w base 58 2 (.slice (some ⟨g6, o6, none⟩) xs.length c6) xs.length (smpV xs)) :
    rest.wp Try.prog (bodyPost Try.prog Try.f11 (RGQ w0 base g window F1 L1 vs xs ls)) (rgotF g came size q) w := by
  have e := hr.symm.trans (show tl1 (tl1 (cut3 (Try.f11.body.getD .skip))) = .seq _ (.seq _ _) from rfl)
  subst e
  clear hr
  have HH := Aside0.mk H
  have HV6 := Aside0.mk HV
  have HQ := Aside0.mk hq
  have hbase : base ≤ w.heap.size := by have := H.b; have := blk_lt H.c; omega
  have hg6 : g6 < w.heap.size := (HV.lt rfl).1
  have hg := blk_lt H.c
  obtain ⟨n, hn⟩ : ∃ n, n = xs.length := ⟨_, rfl⟩
  rw [← hn] at HQ hlen
  have hform : n ≤ c6 ∧ c6 ≤ maxLen := by
    obtain ⟨A2, c', ec, h1, h2⟩ := HV.form
    injection ec with _ _ ec
    subst ec
    exact ⟨by omega, h2⟩
  obtain ⟨hnc, hcm⟩ := hform
  have HN := Aside0.mk hn
  obtain ⟨P, hP⟩ : ∃ P : Smp → Bool, P = (fun p => decide (L1 - window < p.1)) := ⟨_, rfl⟩
  have HP := Aside0.mk hP
  rw [← hn] at HV6
  clear H HV hq hn hP
  refine wp_seq_k (fun K5 hK5 => ?_)
  have HK5 := Aside0.mk hK5
  clear hK5
  unfold rgotF
  rw [HQ.out]
  go_wp2_with fail
  (try simp only [Exit.then])
  refine HK5.out _ _ (wp_seq_k (fun K6 hK6 => ?_))
  have HK6 := Aside0.mk hK6
  clear hK6 HK5
  go_wp2_with fail
  go_loopw [7, 8] (fun v7 v8 wr => RFRel w base P xs v7 v8 wr) (fun _ v _ => n - (intOf v).toNat)
  case atStart => exact ⟨0, rfl, by omega, ⟨by simp [smpV]; exact RowV.nil _ _ _ _⟩, ⟨fun k hk => by cases hk⟩, ⟨Below.refl _ _⟩⟩
  case round =>
    obtain ⟨i, rfl, hi, HR, HO, HB⟩ := hrel
    rw [← HN.out] at hi
    have hx6 := (HH.out.below HB.out).c3
    have hx0 := (HH.out.below HB.out).c0
    dsimp only at hx6 hx0
    by_cases hlt : i < n
    · obtain ⟨⟨p1, p2⟩, hp⟩ : ∃ p, xs[i]? = some p := ⟨xs[i]'(by rw [← HN.out]; exact hlt), List.getElem?_eq_getElem (by rw [← HN.out]; exact hlt)⟩
      obtain ⟨xe0, xe1⟩ := smpV_get hp
      dsimp only at xe0 xe1
      obtain ⟨gg, oo, cc, ev, _, _, _, hx⟩ := (HV6.out.below HB.out).some_ (by omega)
      injection ev with ev ev3 ev4
      clear ev3
      subst ev4
      injection ev with ev
      injection ev with ev1 ev2
      subst ev1 ev2
      have y0 := hx _ _ xe0
      have y1 := hx _ _ xe1
      rw [← Nat.add_assoc] at y1
      have htk : (xs.take (i + 1)).filter P = (xs.take i).filter P ++ [(p1, p2)].filter P := by
        rw [List.take_add_one, hp, List.filter_append]
        rfl
      have HTK := Aside0.mk htk
      have hPp : P (p1, p2) = decide (L1 - window < p1) := by rw [HP.out]
      have HPP := Aside0.mk hPp
      have i0 : (0 : Int) ≤ (i : Int) := by omega
      have i1 : (i : Int) < (n : Int) := by omega
      have w1 : wrap64 (L1 - window) = L1 - window := by unfold wrap64; omega
      have w2 : IntKind.i64.wrap (L1 - window) = L1 - window := by rw [i64_w]; exact w1
      clear hx xe0 xe1 hp htk hPp
      by_cases hc : L1 - window < p1
      · have d1 : decide (L1 - window < p1) = true := decide_eq_true hc
        go_wp2_with fail
        go_quiet (fail)
        obtain ⟨F, hF⟩ : ∃ F, F = (xs.take i).filter P := ⟨_, rfl⟩
        rw [← hF] at HR HTK
        have hFl : F.length ≤ 4096 := by
          rw [hF]
          refine Nat.le_trans (List.length_filter_le _ _) ?_
          rw [List.length_take]
          omega
        obtain ⟨fn, hfn⟩ : ∃ fn, fn = F.length := ⟨_, rfl⟩
        rw [← hfn] at HR hFl
        have HFN := Aside0.mk hfn
        obtain ⟨A7, c7, hv7, hfc, hcm7⟩ := HR.out.form
        subst hv7
        have hBd := Aside0.mk (pw_below_drewN HB.out nq)
        have hRd : RowV (wr.drewN nq) base 58 2 (.slice A7 fn c7) fn (smpV F) := HR.out.below (pw_below_drewN (Below.refl _ _) nq)
        have z0 : (wr.drewN nq).cell? ⟨g6, o6 + i * 2, none⟩ = some (.int .i64 p1) := y0
        have z1 : (wr.drewN nq).cell? ⟨g6, o6 + i * 2 + 1, none⟩ = some (.int .i64 p2) := y1
        clear hx6 hx0 y0 y1 hF hfn
        generalize wr.drewN nq = W at *
        have HRd : Aside0 (RowV (W.alloc (.cells #[.int .i64 p1, .int .i64 p2] 58)) base 58 2 (.slice A7 fn c7) fn (smpV F)) := ⟨hRd.below ((Below.refl _ _).alloc (Nat.le_refl _) _)⟩
        have HNX := Aside0.mk (new_news W [.int .i64 p1, .int .i64 p2] 58)
        have HBX := Aside0.mk (show base ≤ (W.alloc (.cells #[.int .i64 p1, .int .i64 p2] 58)).heap.size by have := hBd.out.size; simp; omega)
        have HBY := Aside0.mk (hBd.out.alloc (o := .cells #[.int .i64 p1, .int .i64 p2] 58) hBd.out.size)
        clear hRd
        go_wp2_with (at_builtin; refine row_append (w := W.alloc (.cells #[.int .i64 p1, .int .i64 p2] 58)) rfl (.tmp 93) (.tmp 98) 51 rfl 58 Try.t58 (.agg #[.int .i64 0, .int .i64 0]) 2 16 Try.underlying51 (by kernel_rfl) rfl rfl rfl (by decide) (by decide) base (.slice A7 fn c7) fn (smpV F) (by rfl) HRd.out ⟨W.heap.size, 0, none⟩ 1 1 [.int .i64 p1, .int .i64 p2] (by rfl) rfl HNX.out (by simp [Value.oneCell']) (by simp only [maxLen]; omega) (by omega) HBX.out ?_; intro v1 w6 hR6 hG6 hO6 hF6; have HR6 := Aside0.mk hR6; have HB6 := Aside0.mk (below_new HBY.out hG6 HO.out); have HO6 : Aside0 (∀ k, v1.ownBlock = some k → w.heap.size ≤ k) := ⟨fun k hk => (hO6 k hk).elim (HO.out k) (fun h => Nat.le_trans HBY.out.size h)⟩; clear hR6 hG6 hO6 hF6)
        refine ⟨⟨i + 1, by simp, by rw [← HN.out]; omega, ⟨?_⟩, ⟨?_⟩, HB6⟩, by simp [intOf]; omega⟩
        · rw [HTK.out, List.filter_cons_of_pos (by rw [HPP.out]; exact d1), List.length_append, smpV_append, ← HFN.out]
          exact HR6.out
        · exact HO6.out
      · have d1 : decide (L1 - window < p1) = false := decide_eq_false hc
        go_wp2_with fail
        go_quiet (fail)
        go_wp2_with fail
        refine ⟨⟨i + 1, by simp, by rw [← HN.out]; omega, ⟨?_⟩, HO, ⟨pw_below_drewN HB.out nq⟩⟩, by simp [intOf]; omega⟩
        rw [HTK.out, List.filter_cons_of_neg (by rw [HPP.out, d1]; decide), List.filter_nil, List.append_nil]
        exact HR.out.below (pw_below_drewN (Below.refl _ _) nq)
    · have hin : i = xs.length := by rw [← HN.out]; omega
      subst hin
      rw [List.take_length] at HR
      have hFl : (xs.filter P).length ≤ 4096 := Nat.le_trans (List.length_filter_le _ _) (by rw [← HN.out]; exact hlen)
      obtain ⟨fn, hfn⟩ : ∃ fn, fn = (xs.filter P).length := ⟨_, rfl⟩
      have hR := HR.out
      rw [← hfn] at hR hFl
      obtain ⟨A7, c7, hv7, hfc, hcm7⟩ := hR.form
      subst hv7
      have HFN := Aside0.mk hfn
      have HW := Aside0.mk (HH.out.below HB.out)
      have f1 := HW.out.f1
      have x1 := HW.out.c1
      dsimp only at x1
      have d1 : decide (4096 < (fn : Int)) = false := decide_eq_false (by omega)
      have HR2 := Aside0.mk hR
      have hil : ((xs.length : Nat) : Int) = (n : Int) := by rw [HN.out]
      rw [hil]
      clear hR hfn hil HR
      go_wp2_with fail
      (try simp only [Exit.then])
      refine HK6.out _ _ ?_
      go_wp2_with fail
      go_end0
      refine ⟨rfl, .slice A7 fn c7, ?_⟩
      rw [← HP.out]
      exact HW.out.s1 (l2 := xs.filter P) (by rw [← HFN.out]; exact HR2.out)
theorem rgot_filter_a (w0 : World) (base g : Nat) (window F1 L1 came size : Int) (vl vs : Value) (l xs : List Smp) (ls : List Bool) (g6 o6 c6 : Nat) (h0 : 1 ≤ window) (h1 : window ≤ 1125899906842624) (h2 : -1125899906842624 ≤ L1) (h3 : L1 ≤ 1125899906842624) (hlen : xs.length ≤ 4096)
    (a : Act) (ha : a = rgotF g came size (fun i => a.tmps.getD i undef)) (hq : a.tmps.getD 6 undef = .slice (some ⟨g6, o6, none⟩) xs.length c6) (w : World) (H : RwRun w0 w base g ⟨window, vl, true, L1, F1, vs⟩ l ls) (HV : RowV w base 58 2 (.slice (some ⟨g6, o6, none⟩) xs.length c6) xs.length (smpV xs)) :
    (tl1 (tl1 (cut3 (Try.f11.body.getD .skip)))).wp Try.prog (bodyPost Try.prog Try.f11 (RGQ w0 base g window F1 L1 vs xs ls)) a w := by
  rw [ha]
  exact rgot_filter w0 base g window F1 L1 came size vl vs l xs ls g6 o6 c6 h0 h1 h2 h3 hlen _ rfl _ hq w H HV
set_option maxHeartbeats 8000000 in
set_option maxRecDepth 100000 in
theorem rgot_put_nil (w0 : World) (base g : Nat) (window F1 L1 came size : Int) (A : Option Addr) (c : Nat) (vs : Value) (ls : List Bool) (h0 : 1 ≤ window) (h1 : window ≤ 1125899906842624) (h2 : -1125899906842624 ≤ L1) (h3 : L1 ≤ 1125899906842624)
    (rest : Code) (hr : tl1 (cut3 (Try.f11.body.getD .skip)) = rest) (q : Nat → Value) (w : World) (H : RwRun w0 w base g ⟨window, .slice A 0 c, true, L1, F1, vs⟩ [] ls) :
    rest.wp Try.prog (bodyPost Try.prog Try.f11 (RGQ w0 base g window F1 L1 vs ([] ++ [(came, size)]) ls)) (rgotF g came size q) w := by
  have e := hr.symm.trans (show tl1 (cut3 (Try.f11.body.getD .skip)) = .seq _ (tl1 (tl1 (cut3 (Try.f11.body.getD .skip)))) from rfl)
  subst e
  clear hr
  have HF := Aside0.mk (fun vl l g6 o6 c6 => rgot_filter_a w0 base g window F1 L1 came size vl vs l ([] ++ [(came, size)]) ls g6 o6 c6 h0 h1 h2 h3 (by simp))
  have x1 := H.c1
  dsimp only at x1
  have HH := Aside0.mk H
  have hlt := blk_lt H.c
  have hbb := H.b
  have HE : Aside0 (RowV ((w.alloc (.cells #[] 58)).alloc (.cells #[.int .i64 came, .int .i64 size] 58)) base 58 2 (.slice (some ⟨w.heap.size, 0, none⟩) 0 0) 0 []) := ⟨(RowV.empty w base 58 2 (by omega)).below ((Below.refl _ _).alloc (Nat.le_refl _) _)⟩
  have HN := new_news (w.alloc (.cells #[] 58)) [.int .i64 came, .int .i64 size] 58
  rw [show (w.alloc (.cells #[] 58)).heap.size = w.heap.size + 1 by simp] at HN
  have HNW := Aside0.mk HN
  have hB0 : Below w.heap.size w ((w.alloc (.cells #[] 58)).alloc (.cells #[.int .i64 came, .int .i64 size] 58)) := ((Below.refl _ _).alloc (Nat.le_refl _) _).alloc (by simp) _
  have HB0 := Aside0.mk hB0
  have HBA := Aside0.mk (show base ≤ ((w.alloc (.cells #[] 58)).alloc (.cells #[.int .i64 came, .int .i64 size] 58)).heap.size by simp; omega)
  clear H HN hB0
  refine wp_seq_k (fun K4 hK4 => ?_)
  have HK4 := Aside0.mk hK4
  clear hK4
  unfold rgotF
  go_wp2_with (first | (at_builtin; refine row_append_none (w := w.alloc (.cells #[] 58)) rfl (.tmp 61) (.tmp 65) 51 rfl 58 Try.t58 Try.underlying51 (by kernel_rfl) (some ⟨w.heap.size, 0, none⟩) A 0 0 c (by rfl) (by rfl) (by omega) ?_) | (at_builtin; refine row_append (w := (w.alloc (.cells #[] 58)).alloc (.cells #[.int .i64 came, .int .i64 size] 58)) rfl (.tmp 66) (.tmp 70) 51 rfl 58 Try.t58 (.agg #[.int .i64 0, .int .i64 0]) 2 16 Try.underlying51 (by kernel_rfl) rfl rfl rfl (by decide) (by decide) base (.slice (some ⟨w.heap.size, 0, none⟩) 0 0) 0 [] (by rfl) HE.out ⟨w.heap.size + 1, 0, none⟩ 1 1 [.int .i64 came, .int .i64 size] (by rfl) rfl HNW.out (by simp [Value.oneCell']) (by decide) (by decide) HBA.out ?_; intro v1 w6 hR6 hG6 hO6 hF6; obtain ⟨g6, o6, c6, rfl, hb6, hn6, hc6, hx6⟩ := hR6.some_ (by omega); have HB6 := Aside0.mk (below_new HB0.out hG6 (fun k hk => Nat.le_of_eq (by injection hk))); have HR6 := Aside0.mk hR6; clear hx6 hR6 hG6 hO6 hF6 x1))
  (try simp only [Exit.then])
  exact HK4.out _ _ (HF.out _ _ g6 o6 c6 _ rfl rfl _ (HH.out.below HB6.out) HR6.out)
set_option maxHeartbeats 8000000 in
set_option maxRecDepth 100000 in
theorem rgot_put_some (w0 : World) (base g : Nat) (window F1 L1 came size : Int) (b5 off5 n c : Nat) (vs : Value) (l : List Smp) (ls : List Bool) (h0 : 1 ≤ window) (h1 : window ≤ 1125899906842624) (h2 : -1125899906842624 ≤ L1) (h3 : L1 ≤ 1125899906842624) (hn : n = l.length) (hn0 : 0 < n) (hn1 : n ≤ 4095)
    (rest : Code) (hr : tl1 (cut3 (Try.f11.body.getD .skip)) = rest) (q : Nat → Value) (w : World) (H : RwRun w0 w base g ⟨window, .slice (some ⟨b5, off5, none⟩) n c, true, L1, F1, vs⟩ l ls) :
    rest.wp Try.prog (bodyPost Try.prog Try.f11 (RGQ w0 base g window F1 L1 vs (l ++ [(came, size)]) ls)) (rgotF g came size q) w := by
  have e := hr.symm.trans (show tl1 (cut3 (Try.f11.body.getD .skip)) = .seq _ (tl1 (tl1 (cut3 (Try.f11.body.getD .skip)))) from rfl)
  subst e
  clear hr
  have hlx : (l ++ [(came, size)]).length = n + 1 := by rw [List.length_append, List.length_singleton, hn]
  have hF := fun vl l' g6 o6 c6 => rgot_filter_a w0 base g window F1 L1 came size vl vs l' (l ++ [(came, size)]) ls g6 o6 c6 h0 h1 h2 h3 (by rw [hlx]; omega)
  rw [hlx] at hF
  have HF := Aside0.mk hF
  have x1 := H.c1
  dsimp only at x1
  have HH := Aside0.mk H
  have hlt := blk_lt H.c
  have hbb := H.b
  have HN := Aside0.mk hn
  have hrs : RowV w base 58 2 (.slice (some ⟨b5, off5, none⟩) n c) n (smpV l) := by have := H.rl; dsimp only at this; rw [← hn] at this; exact this
  have hform : n ≤ c ∧ c ≤ maxLen := by
    obtain ⟨A2, c', ec, h1, h2⟩ := hrs.form
    injection ec with _ _ ec
    subst ec
    exact ⟨h1, h2⟩
  obtain ⟨hnc, hcm⟩ := hform
  have hBA : Below w.heap.size w (w.alloc (.cells #[] 58)) := (Below.refl _ _).alloc (Nat.le_refl _) _
  have HBA := Aside0.mk hBA
  have HE : Aside0 (RowV (w.alloc (.cells #[] 58)) base 58 2 (.slice (some ⟨w.heap.size, 0, none⟩) 0 0) 0 []) := ⟨RowV.empty w base 58 2 (by omega)⟩
  have HNW := Aside0.mk (news_of_row (hrs.below hBA) 0 (by omega))
  have HB1 := Aside0.mk (show base ≤ (w.alloc (.cells #[] 58)).heap.size by simp; omega)
  clear H hF hlx hn hrs hBA
  refine wp_seq_k (fun K4 hK4 => ?_)
  have HK4 := Aside0.mk hK4
  clear hK4
  unfold rgotF
  go_wp2_with (first | (at_builtin; refine row_append (w := w.alloc (.cells #[] 58)) rfl (.tmp 61) (.tmp 65) 51 rfl 58 Try.t58 (.agg #[.int .i64 0, .int .i64 0]) 2 16 Try.underlying51 (by kernel_rfl) rfl rfl rfl (by decide) (by decide) base (.slice (some ⟨w.heap.size, 0, none⟩) 0 0) 0 [] (by rfl) HE.out ⟨b5, off5, none⟩ n c (smpV l) (by rfl) (by rw [smpV_length, ← HN.out]) (by have := HNW.out; simpa using this) (smpV_one _) (by simp only [maxLen]; omega) (by omega) HB1.out ?_; intro v1 w5 hR5 hG5 hO5 hF5; obtain ⟨g5, o5, c5, rfl, hb5_, hn5, hc5, hx5⟩ := hR5.some_ (by omega); obtain ⟨hG, hO⟩ := hF5 _ _ rfl (by omega); have hB5 := below_new HBA.out hG (fun k hk => by cases hk); have HO5 := Aside0.mk (show w.heap.size ≤ g5 by have := hO g5 rfl; simp at this; omega); have hR5b : RowV (w5.alloc (.cells #[.int .i64 came, .int .i64 size] 58)) base 58 2 (.slice (some ⟨g5, o5, none⟩) (0 + n) c5) (0 + n) ([] ++ smpV l) := hR5.below ((Below.refl _ _).alloc (Nat.le_refl _) _); rw [List.nil_append, Nat.zero_add] at hR5b; have HR5 := Aside0.mk hR5b; have HNX := Aside0.mk (new_news w5 [.int .i64 came, .int .i64 size] 58); have HB5b := Aside0.mk (show base ≤ (w5.alloc (.cells #[.int .i64 came, .int .i64 size] 58)).heap.size by have := hB5.size; simp; omega); have HB5c := Aside0.mk (hB5.alloc (o := .cells #[.int .i64 came, .int .i64 size] 58) hB5.size); rw [show (0 : Nat) + n = n from Nat.zero_add _]; clear hx5 hR5 hG5 hO5 hF5 hG hO hB5 hR5b hn5 x1) | (at_builtin; refine row_append (w := w5.alloc (.cells #[.int .i64 came, .int .i64 size] 58)) rfl (.tmp 66) (.tmp 70) 51 rfl 58 Try.t58 (.agg #[.int .i64 0, .int .i64 0]) 2 16 Try.underlying51 (by kernel_rfl) rfl rfl rfl (by decide) (by decide) base (.slice (some ⟨g5, o5, none⟩) n c5) n (smpV l) (by rfl) HR5.out ⟨w5.heap.size, 0, none⟩ 1 1 [.int .i64 came, .int .i64 size] (by rfl) rfl HNX.out (by simp [Value.oneCell']) (by simp only [maxLen]; omega) (by omega) HB5b.out ?_; intro v1 w6 hR6 hG6 hO6 hF6; obtain ⟨g6, o6, c6, rfl, hb6, hn6, hc6, hx6⟩ := hR6.some_ (by omega); have HB6 := Aside0.mk (below_new HB5c.out hG6 (fun k hk => Nat.le_trans HO5.out (Nat.le_of_eq (by injection hk)))); have HR6 := Aside0.mk hR6; clear hx6 hR6 hG6 hO6 hF6))
  (try simp only [Exit.then])
  refine HK4.out _ _ (HF.out _ _ g6 o6 c6 _ rfl rfl _ (HH.out.below HB6.out) ?_)
  rw [smpV_append]
  exact HR6.out
theorem rgot_put_a (w0 : World) (base g : Nat) (window F1 L1 came size : Int) (vl vs : Value) (l : List Smp) (ls : List Bool) (h0 : 1 ≤ window) (h1 : window ≤ 1125899906842624) (h2 : -1125899906842624 ≤ L1) (h3 : L1 ≤ 1125899906842624) (hn1 : l.length ≤ 4095)
    (a : Act) (ha : a = rgotF g came size (fun i => a.tmps.getD i undef)) (Q2 : Ending → World → Prop) (hQ : ∀ e w', RGQ w0 base g window F1 L1 vs (l ++ [(came, size)]) ls e w' → Q2 e w') (w : World) (H : RwRun w0 w base g ⟨window, vl, true, L1, F1, vs⟩ l ls) :
    (tl1 (cut3 (Try.f11.body.getD .skip))).wp Try.prog (bodyPost Try.prog Try.f11 Q2) a w := by
  rw [ha]
  refine Code.wp_mono (fun _ _ _ q => bodyPost_imp hQ q) ?_
  obtain ⟨A, c, hvl, hnc, hcm⟩ := H.rl.form
  dsimp only at hvl
  subst hvl
  by_cases hz : l.length = 0
  · obtain rfl : l = [] := List.eq_nil_of_length_eq_zero hz
    exact rgot_put_nil w0 base g window F1 L1 came size A c vs ls h0 h1 h2 h3 _ rfl _ w H
  · obtain ⟨b5, off5, c', hv2, _⟩ := H.rl.some_ (by omega)
    dsimp only at hv2
    injection hv2 with hA _ hc
    subst hA hc
    exact rgot_put_some w0 base g window F1 L1 came size b5 off5 l.length c vs l ls h0 h1 h2 h3 rfl (by omega) hn1 _ rfl _ w H
set_option maxHeartbeats 8000000 in
set_option maxRecDepth 100000 in
theorem rgot_good {w0 w : World} {base g : Nat} {s : Mt} {k : Nat} (came size : Int) (h : RMtGo w0 w base g s) (ho : MtOk s k) (hk : k ≤ 4095) (hg : goodS came size = true) : Calls Try.prog 11 #[.pointer (some ⟨g, 0, none⟩), .int .i64 came, .int .i64 size] w fun e w' => e = .returned (.tuple #[]) ∧ RMtGo w0 w' base g (s.got1 came size) := by
  obtain ⟨vl, vs0, h⟩ := h
  have HP := Aside0.mk (rnote_any (w := w) false h ho.lsn)
  have HO := Aside0.mk ho
  have hgg := hg
  simp only [goodS, decide_eq_true_eq] at hgg
  obtain ⟨a1, a2, a3, a4⟩ := hgg
  clear h hg ho
  go_enter Try.func11, Try.ntmps11
  refine wp_seq_k (fun K0 hK0 => ?_)
  have HK0 := Aside0.mk hK0
  clear hK0
  go_wp2_with fail
  all_goals first | (exfalso; omega) | skip
  (try simp only [Exit.then])
  refine HK0.out _ _ (wp_seq_k (fun K1 hK1 => ?_))
  have HK1 := Aside0.mk hK1
  clear hK1 HK0
  go_wp2_with fail
  refine HP.out.mono ?_
  rintro e w1 ⟨rfl, vs, hM⟩
  have hM : RwRun w0 w1 base g ⟨s.window, vl, s.any, s.last, s.first, vs⟩ s.l (Mt.push s.ls false) := hM
  have hlen : s.l.length ≤ 4095 := by have := HO.out.len; omega
  have hw0 := HO.out.w0
  have hw1 := HO.out.w1
  have hl1 := HO.out.l1
  have hf0 := HO.out.f0
  have hfl := HO.out.fl
  obtain ⟨F1, hF⟩ : ∃ F1, F1 = s.firstOf came := ⟨_, rfl⟩
  obtain ⟨L1, hL⟩ : ∃ L1, L1 = s.lastOf came := ⟨_, rfl⟩
  have hLb : -1125899906842624 ≤ L1 ∧ L1 ≤ 1125899906842624 := by rw [hL]; unfold Mt.lastOf; split <;> omega
  have hgo : ∀ (e : Ending) (w' : World), RGQ w0 base g s.window F1 L1 vs (s.l ++ [(came, size)]) (Mt.push s.ls false) e w' → e = .returned (.tuple #[]) ∧ RMtGo w0 w' base g (s.got1 came size) := by
    rintro e w' ⟨he, vl', hR⟩
    rw [hF, hL] at hR
    exact ⟨he, vl', vs, hR⟩
  have HS := Aside0.mk (fun (a : Act) (ha : a = rgotF g came size (fun i => a.tmps.getD i undef)) (w2 : World) H => rgot_put_a w0 base g s.window F1 L1 came size vl vs s.l (Mt.push s.ls false) hw0 hw1 hLb.1 hLb.2 hlen a ha _ hgo w2 H)
  have HM := Aside0.mk hM
  have x1 := hM.c2
  have x2 := hM.c3
  have x3 := hM.c4
  have x1f := hM.f2
  have x2f := hM.f3
  have x3f := hM.f4
  dsimp only at x1 x2 x3
  have HF := Aside0.mk hF
  have HL := Aside0.mk hL
  clear hM hlen hw0 hw1 hl1 hf0 hfl hLb hgo hF hL HP
  obtain ⟨window, any, first, last, sl, sls⟩ := s
  dsimp only at x1 x2 x3
  go_wp2_with fail
  (try simp only [Exit.then])
  refine HK1.out _ _ (wp_seq_k (fun K2 hK2 => ?_))
  have HK2 := Aside0.mk hK2
  clear hK2 HK1
  cases any
  · have eF : min came came = F1 := by rw [HF.out]; simp [Mt.firstOf]
    have eL : max came came = L1 := by rw [HL.out]; simp [Mt.lastOf]
    have HM2 := Aside0.mk (((HM.out.s2 true).s3 came).s4 came)
    go_wp2_with fail
    (try simp only [Exit.then])
    refine HK2.out _ _ (wp_seq_k (fun K3 hK3 => ?_))
    have HK3 := Aside0.mk hK3
    clear hK3 HK2 x1 x2 x3 x1f x2f x3f
    have x2 := HM2.out.c3
    have x3 := HM2.out.c4
    have x2f := HM2.out.f3
    have x3f := HM2.out.f4
    dsimp only at x2 x3
    generalize ((w1.setCell { block := g, off := 2 } (Value.bool true)).setCell { block := g, off := 3 } (Value.int IntKind.i64 came)).setCell { block := g, off := 4 } (Value.int IntKind.i64 came) = w2 at *
    go_region
    all_goals (try simp only [Exit.then])
    all_goals refine HK3.out _ _ (HS.out _ ?_ _ ?_)
    all_goals first | rfl | exact ((HM2.out.s3 L1).s4 F1).drewn | exact ((HM2.out.s4 F1).s3 L1).drewn
  · have eF : min first came = F1 := by rw [HF.out]; simp [Mt.firstOf]
    have eL : max last came = L1 := by rw [HL.out]; simp [Mt.lastOf]
    go_wp2_with fail
    (try simp only [Exit.then])
    refine HK2.out _ _ (wp_seq_k (fun K3 hK3 => ?_))
    have HK3 := Aside0.mk hK3
    clear hK3 HK2
    go_region
    all_goals (try simp only [Exit.then])
    all_goals refine HK3.out _ _ (HS.out _ ?_ _ ?_)
    all_goals first | rfl | exact ((HM.out.s3 L1).s4 F1).drewn | exact ((HM.out.s4 F1).s3 L1).drewn
set_option maxRecDepth 100000 in
theorem rgot_bad {w : World} {A : Option Addr} (came size : Int) (h : goodS came size = false) : Calls Try.prog 11 #[.pointer A, .int .i64 came, .int .i64 size] w fun e w' => e = .returned (.tuple #[]) ∧ w' = w := by
  have h : ¬ (0 ≤ size ∧ size ≤ 1500 ∧ -1125899906842624 ≤ came ∧ came ≤ 1125899906842624) := by simpa [goodS] using h
  have hc : size < 0 ∨ (0 ≤ size ∧ 1500 < size) ∨ (0 ≤ size ∧ size ≤ 1500 ∧ came < -1125899906842624) ∨ (0 ≤ size ∧ size ≤ 1500 ∧ -1125899906842624 ≤ came ∧ 1125899906842624 < came) := by omega
  clear h
  rcases hc with h1 | ⟨h1, h2⟩ | ⟨h1, h2, h3⟩ | ⟨h1, h2, h3, h4⟩
  all_goals
    go_enter Try.func11, Try.ntmps11
    go_wp2_with fail
    all_goals first | (exfalso; omega) | skip
    all_goals ((try simp only [Exit.inBlock, Exit.then]); refine bodyPost_ret (results_none rfl _ _ _) rfl ?_)
    all_goals exact ⟨rfl, rfl⟩
theorem rgot_any {w0 w : World} {base g : Nat} {s : Mt} {k : Nat} (came size : Int) (h : RMtGo w0 w base g s) (ho : MtOk s k) (hk : k ≤ 4095) : Calls Try.prog 11 #[.pointer (some ⟨g, 0, none⟩), .int .i64 came, .int .i64 size] w fun e w' => e = .returned (.tuple #[]) ∧ RMtGo w0 w' base g (s.got came size) := by
  unfold Mt.got
  cases hg : goodS came size
  · refine (rgot_bad (w := w) (A := some ⟨g, 0, none⟩) came size hg).mono ?_
    rintro e w' ⟨he, rfl⟩
    exact ⟨he, h⟩
  · exact rgot_good came size h ho hk hg
theorem rmnew_good (window : Int) (base : Nat) (w : World) (h0 : 1 ≤ window) (h1 : window ≤ 1125899906842624) (hb : base ≤ w.heap.size) : Calls Try.prog 9 #[.int .i64 window] w fun e w' => ∃ g : Nat, e = .returned (.tuple #[.pointer (some ⟨g, 0, none⟩), .int .i64 0]) ∧ RMtGo w' w' base g (Mt.made window) ∧ w.heap.size ≤ g ∧ Below w.heap.size w w' := by
  have d1 : decide (window < 1) = false := decide_eq_false (by omega)
  have d2 : decide (1125899906842624 < window) = false := decide_eq_false (by omega)
  go_enter Try.func9, Try.ntmps9
  go_wp2
  all_goals go_ret2
  refine ⟨w.heap.size, rfl, ⟨.slice none 0 0, .slice none 0 0, ⟨?_, hb, RowV.nil _ _ _ _, RowV.nil _ _ _ _, Touch.refl _ _⟩⟩, Nat.le_refl _, (Below.refl _ _).alloc (Nat.le_refl _) _⟩
  exact blk_new w _
theorem rmnew_bad (window : Int) (w : World) (h : window < 1 ∨ 1125899906842624 < window) : Calls Try.prog 9 #[.int .i64 window] w fun e w' => e = .returned (.tuple #[.pointer none, .int .i64 1]) ∧ w' = w := by
  rcases h with h | h
  all_goals
    go_enter Try.func9, Try.ntmps9
    go_wp2
    all_goals go_ret2
    all_goals first | exact ⟨rfl, rfl⟩ | (exfalso; omega)
def RLostRel (w0 : World) (base g : Nat) (s : Mt) (n : Nat) (v : Value) (wr : World) : Prop := ∃ j : Nat, v = .int .i64 j ∧ j ≤ n ∧ Aside0 (RMtGo w0 wr base g (s.lostN j))
set_option maxHeartbeats 4000000 in
theorem rlost_good {w0 w : World} {base g : Nat} {s : Mt} {k : Nat} (n : Nat) (h : RMtGo w0 w base g s) (ho : MtOk s k) (hn : n ≤ 4096) : Calls Try.prog 13 #[.pointer (some ⟨g, 0, none⟩), .int .i64 (n : Int)] w fun e w' => e = .returned (.tuple #[]) ∧ RMtGo w0 w' base g (s.lostN n) := by
  have HH := Aside0.mk h
  have HO := Aside0.mk ho
  have d2 : decide ((n : Int) ≤ 4096) = true := decide_eq_true (by omega)
  have d3 : decide (n ≤ 4096) = true := decide_eq_true hn
  clear h ho
  go_enter Try.func13, Try.ntmps13
  go_wp2_with fail
  go_loopw [4] (fun v wr => RLostRel w0 base g s n v wr) (fun v _ => n - (intOf v).toNat)
  case atStart => exact ⟨0, rfl, by omega, HH⟩
  case round =>
    obtain ⟨j, rfl, hj, hR⟩ := hrel
    by_cases hlt : j < n
    · have HP : Aside0 (Calls Try.prog 26 #[.pointer (some ⟨g, 0, none⟩), .int .i64 1] wr fun e w' => e = .returned (.tuple #[]) ∧ RMtGo w0 w' base g (s.lostN (j + 1))) := ⟨by
        obtain ⟨vl, vs, hM⟩ := hR.out
        refine (rnote_any (w := wr) true hM (HO.out.lostN j).lsn).mono ?_
        rintro e w' ⟨he, vs', hM'⟩
        exact ⟨he, vl, vs', hM'⟩⟩
      go_wp2_with fail
      refine HP.out.mono ?_
      rintro e w3 ⟨rfl, h3⟩
      have H3 := Aside0.mk h3
      clear h3
      go_wp2_with fail
      exact ⟨⟨j + 1, by simp, by omega, H3⟩, by simp [intOf]; omega⟩
    · obtain rfl : j = n := by omega
      go_wp2_with fail
      all_goals go_end0
      all_goals exact ⟨rfl, hR.out⟩
theorem rlost_bad {w : World} {A : Option Addr} (n : Int) (h : n < 0 ∨ 4096 < n) : Calls Try.prog 13 #[.pointer A, .int .i64 n] w fun e w' => e = .returned (.tuple #[]) ∧ w' = w := by
  go_enter Try.func13, Try.ntmps13
  go_wp2_with fail
  go_loop [4] (fun v => v = .int .i64 0) (fun v => 0)
  case atStart => exact rfl
  case round =>
    subst hrel
    rcases h with h | h
    all_goals
      go_wp2_with fail
      all_goals first | (exfalso; omega) | skip
      all_goals go_end0
      all_goals exact ⟨rfl, rfl⟩
theorem rlost_any {w0 w : World} {base g : Nat} {s : Mt} {k : Nat} (n : Int) (h : RMtGo w0 w base g s) (ho : MtOk s k) : Calls Try.prog 13 #[.pointer (some ⟨g, 0, none⟩), .int .i64 n] w fun e w' => e = .returned (.tuple #[]) ∧ RMtGo w0 w' base g (s.lost n) := by
  unfold Mt.lost
  by_cases hn : 0 ≤ n ∧ n ≤ 4096
  · rw [if_pos hn]
    have e : n = ((n.toNat : Nat) : Int) := by omega
    have hc := rlost_good n.toNat h ho (by omega)
    rw [← e] at hc
    exact hc
  · rw [if_neg hn]
    refine (rlost_bad (w := w) (A := some ⟨g, 0, none⟩) n (by omega)).mono ?_
    rintro e w' ⟨he, rfl⟩
    exact ⟨he, h⟩
def BytesRel (l : List Smp) (v3 v4 : Value) : Prop := ∃ j : Nat, v3 = .int .i64 (sumS (l.take j)) ∧ v4 = .int .i64 j ∧ j ≤ l.length
set_option maxHeartbeats 4000000 in
theorem rbytes_any {w0 w : World} {base g : Nat} {s : Mt} {k : Nat} (h : RMtGo w0 w base g s) (ho : MtOk s k) (hk : k ≤ 4096) : Calls Try.prog 17 #[.pointer (some ⟨g, 0, none⟩)] w fun e w' => e = .returned (.int .i64 (sumS s.l)) ∧ w' = w := by
  obtain ⟨vl, vs, h⟩ := h
  have x1 := h.c1
  have hrl := h.rl
  dsimp only at x1 hrl
  have HSZ := Aside0.mk ho.sz
  have hlen := ho.len
  generalize s.l = l at *
  obtain ⟨n, hn⟩ : ∃ n, n = l.length := ⟨_, rfl⟩
  rw [← hn] at hrl hlen
  have HN := Aside0.mk hn
  have HRL := Aside0.mk hrl
  obtain ⟨T0, hT0⟩ : ∃ T, T = sumS l := ⟨_, rfl⟩
  rw [← hT0]
  have HT0 := Aside0.mk hT0
  clear hT0
  obtain ⟨A, c, hvl, hnc, hcm⟩ := hrl.form
  subst hvl
  clear h hrl ho hn
  go_enter Try.func17, Try.ntmps17
  go_wp2_with fail
  go_loop [3, 4] (fun v3 v4 => BytesRel l v3 v4) (fun _ v => n - (intOf v).toNat)
  case atStart => exact ⟨0, by simp [sumS], rfl, by omega⟩
  case round =>
    obtain ⟨j, rfl, rfl, hj⟩ := hrel
    rw [← HN.out] at hj
    by_cases hlt : j < n
    · obtain ⟨⟨p1, p2⟩, hp⟩ : ∃ p, l[j]? = some p := ⟨l[j]'(by rw [← HN.out]; exact hlt), List.getElem?_eq_getElem (by rw [← HN.out]; exact hlt)⟩
      obtain ⟨xe0, xe1⟩ := smpV_get hp
      dsimp only at xe0 xe1
      obtain ⟨gg, oo, cc, ev, _, _, _, hx⟩ := HRL.out.some_ (by omega)
      injection ev with ev ev3 ev4
      clear ev3
      subst ev4
      subst ev
      have y1 := hx _ _ xe1
      rw [← Nat.add_assoc] at y1
      have hs : sumS (l.take (j + 1)) = sumS (l.take j) + p2 := by
        rw [List.take_add_one, hp, sumS_append]
        show _ + sumS [(p1, p2)] = _
        rw [sumS_cons, sumS_nil]
        omega
      have HS := Aside0.mk hs
      have hr := sumS_range (l := l.take j) (fun p hp => HSZ.out p (List.mem_of_mem_take hp))
      have hz := HSZ.out (p1, p2) (List.mem_of_getElem? hp)
      have htl : (l.take j).length ≤ 4096 := by rw [List.length_take]; omega
      dsimp only at hz
      obtain ⟨T, hT⟩ : ∃ T, T = sumS (l.take j) := ⟨_, rfl⟩
      rw [← hT] at hr HS ⊢
      have t0 : 0 ≤ T := hr.1
      have t1 : T ≤ 6144000 := by omega
      obtain ⟨z0, z1⟩ := hz
      clear hx xe0 xe1 hp hs hr hT htl
      go_wp2_with fail
      refine ⟨⟨j + 1, by rw [HS.out], by simp, by rw [← HN.out]; omega⟩, by simp [intOf]; omega⟩
    · have e : j = l.length := by rw [← HN.out]; omega
      have ht : l.take j = l := by rw [List.take_of_length_le]; omega
      rw [ht, ← HT0.out]
      have e2 : j = n := by omega
      subst e2
      clear e ht hj
      go_wp2_with fail
      all_goals go_ret
      all_goals exact ⟨rfl, rfl⟩
theorem rfull_any {w0 w : World} {base g : Nat} {s : Mt} {k : Nat} (h : RMtGo w0 w base g s) (ho : MtOk s k) : Calls Try.prog 19 #[.pointer (some ⟨g, 0, none⟩)] w fun e w' => e = .returned (.bool s.full) ∧ Below w.heap.size w w' := by
  obtain ⟨vl, vs, h⟩ := h
  obtain ⟨q1, q2, q3, q4, q5, _⟩ := ho
  have x0 := h.c0
  have x2 := h.c2
  have x3 := h.c3
  have x4 := h.c4
  dsimp only at x0 x2 x3 x4
  obtain ⟨window, any, first, last, sl, sls⟩ := s
  dsimp only at *
  obtain ⟨B, hB⟩ : ∃ B, decide (window ≤ last - first) = B := ⟨_, rfl⟩
  have w1 : wrap64 (last - first) = last - first := by unfold wrap64; omega
  have w2 : IntKind.i64.wrap (last - first) = last - first := by rw [i64_w]; exact w1
  clear h
  cases any
  · go_enter Try.func19, Try.ntmps19
    go_wp2_with fail
    go_quiet (fail)
    go_wp2_with fail
    go_ret
    exact ⟨rfl, pw_below_drewN (Below.refl _ _) nq⟩
  · go_enter Try.func19, Try.ntmps19
    go_wp2_with fail
    go_quiet (fail)
    go_wp2_with fail
    go_ret
    exact ⟨by simp [Mt.full, hB], pw_below_drewN (Below.refl _ _) nq⟩
set_option maxHeartbeats 4000000 in
theorem rrate_any {w0 w : World} {base g : Nat} {s : Mt} {k : Nat} (h : RMtGo w0 w base g s) (ho : MtOk s k) (hk : k ≤ 4096) : Calls Try.prog 15 #[.pointer (some ⟨g, 0, none⟩)] w fun e w' => e = .returned (.int .i64 s.rate) ∧ Below w.heap.size w w' := by
  have CBY0 := fun (w1 : World) (hb : Below w.heap.size w w1) => rbytes_any (w := w1) (w0 := w0) (base := base) (g := g) (s := s) (by obtain ⟨vl, vs, h⟩ := h; exact ⟨vl, vs, h.below hb⟩) ho hk
  have CF := Aside0.mk (rfull_any h ho)
  obtain ⟨vl, vs, h⟩ := h
  have hsm := ho.sum
  obtain ⟨q1, q2, q3, q4, q5, _⟩ := ho
  have x2 := h.c2
  have HH := Aside0.mk h
  dsimp only at x2
  have hS0 : 0 ≤ sumS s.l := hsm.1
  have hS1 : sumS s.l ≤ 6144000 := by omega
  obtain ⟨R, hR⟩ : ∃ R, R = s.rate := ⟨_, rfl⟩
  unfold Mt.rate at hR
  rw [show s.rate = R from by rw [hR]; rfl]
  have CR0 := fun (y : Int) (hy : I64 y) (w : World) => r4rate_any (sumS s.l) y ⟨by omega, by omega⟩ hy w
  obtain ⟨F, hF⟩ : ∃ F, F = s.full := ⟨_, rfl⟩
  rw [← hF] at hR CF
  clear h hF hsm
  obtain ⟨window, any, first, last, sl, sls⟩ := s
  dsimp only at *
  obtain ⟨S, hS⟩ : ∃ S, S = sumS sl := ⟨_, rfl⟩
  rw [← hS] at hR CR0 hS0 hS1 CBY0
  have HR := Aside0.mk hR
  clear hR hS
  cases any
  · go_enter Try.func15, Try.ntmps15
    go_wp2_with fail
    all_goals go_ret
    refine ⟨ret_int ?_, Below.refl _ _⟩
    rw [HR.out]
    rfl
  · cases F
    · obtain ⟨X, hX⟩ : ∃ X, X = min (max (last - first) 1000) window := ⟨_, rfl⟩
      have CR := Aside0.mk (CR0 X ⟨by omega, by omega⟩)
      have w1 : wrap64 (last - first) = last - first := by unfold wrap64; omega
      have w2 : IntKind.i64.wrap (last - first) = last - first := by rw [i64_w]; exact w1
      obtain ⟨Y, hY⟩ : ∃ Y, max (last - first) 1000 = Y := ⟨_, rfl⟩
      have hXY : min Y window = X := by rw [hX, hY]
      have HX := Aside0.mk hX
      have CBY1 := Aside0.mk CBY0
      clear CR0 hX CBY0
      go_enter Try.func15, Try.ntmps15
      go_wp2_with fail
      refine CF.out.mono ?_
      rintro e w1 ⟨rfl, hB1⟩
      have HB1 := Aside0.mk hB1
      have CBY : Aside0 _ := ⟨CBY1.out w1.drew hB1.drew⟩
      have HW := (HH.out.below hB1).drewn
      have x0 := HW.c0
      have x3 := HW.c3
      have x4 := HW.c4
      dsimp only at x0 x3 x4
      clear HW hB1 x2
      go_wp2_with fail
      refine start_ (n := 19) (S := fun w' => w'.cell? ⟨g, 0, none⟩ = some (.int .i64 window) ∧ w'.cell? ⟨g, 3, none⟩ = some (.int .i64 last) ∧ w'.cell? ⟨g, 4, none⟩ = some (.int .i64 first)) (ds := [17]) #[false, false, false, false, false, false, false, false, false, false, false, false, false, false, false, false, false, false, false] (by kernel_rfl) rfl rfl ⟨x0, x3, x4⟩ (fun hHeld => ?_)
      refine pure_ (i := 0) (N := some 17) (v := ?_) (a' := ?_) #[true, false, false, false, false, false, false, false, false, false, false, false, false, false, false, false, false, false, false] rfl rfl (by kernel_rfl) (fun _ _ _ h => h) (Or.inl ⟨by rfl, ?_⟩) ?_ ?_
      rotate_left
      · intro w'
        go_simp
        with_reducible rfl
      rotate_left
      · simp only [Act.put, List.setIfInBounds_toArray, List.set_cons_zero, List.set_cons_succ, i64_w, i32_w]
        rfl
      refine pure_ (i := 2) (N := some 19) (v := ?_) (a' := ?_) #[true, false, true, false, false, false, false, false, false, false, false, false, false, false, false, false, false, false, false] rfl rfl (by kernel_rfl) (fun _ _ _ h => h) (Or.inl ⟨by rfl, ?_⟩) ?_ ?_
      rotate_left
      · intro w'
        go_simp
        with_reducible rfl
      rotate_left
      · simp only [Act.put, List.setIfInBounds_toArray, List.set_cons_zero, List.set_cons_succ, i64_w, i32_w]
        rfl
      refine pure_ (i := 3) (N := some 20) (v := ?_) (a' := ?_) #[true, false, true, true, false, false, false, false, false, false, false, false, false, false, false, false, false, false, false] rfl rfl (by kernel_rfl) (fun _ _ _ h => h) (Or.inl ⟨by rfl, ?_⟩) ?_ ?_
      rotate_left
      · intro w'
        go_simp
        with_reducible rfl
      rotate_left
      · simp only [Act.put, List.setIfInBounds_toArray, List.set_cons_zero, List.set_cons_succ, i64_w, i32_w]
        rfl
      refine pure_ (i := 4) (N := some 21) (v := ?_) (a' := ?_) #[true, false, true, true, true, false, false, false, false, false, false, false, false, false, false, false, false, false, false] rfl rfl (by kernel_rfl) (fun _ _ _ h => h) (Or.inl ⟨by rfl, ?_⟩) ?_ ?_
      rotate_left
      · intro w'
        go_simp
        with_reducible rfl
      rotate_left
      · simp only [Act.put, List.setIfInBounds_toArray, List.set_cons_zero, List.set_cons_succ, i64_w, i32_w]
        rfl
      refine pure_ (i := 6) (N := some 23) (v := ?_) (a' := ?_) #[true, false, true, true, true, false, true, false, false, false, false, false, false, false, false, false, false, false, false] rfl rfl (by kernel_rfl) (fun _ _ _ h => h) (Or.inl ⟨by rfl, ?_⟩) ?_ ?_
      rotate_left
      · intro w'
        go_simp
        with_reducible rfl
      rotate_left
      · simp only [Act.put, List.setIfInBounds_toArray, List.set_cons_zero, List.set_cons_succ, i64_w, i32_w]
        rfl
      refine pure_ (i := 7) (N := some 24) (v := ?_) (a' := ?_) #[true, false, true, true, true, false, true, true, false, false, false, false, false, false, false, false, false, false, false] rfl rfl (by kernel_rfl) (fun _ _ _ h => h) (Or.inl ⟨by rfl, ?_⟩) ?_ ?_
      rotate_left
      · intro w'
        go_simp
        with_reducible rfl
      rotate_left
      · simp only [Act.put, List.setIfInBounds_toArray, List.set_cons_zero, List.set_cons_succ, i64_w, i32_w]
        rfl
      refine pure_ (i := 8) (N := some 25) (v := ?_) (a' := ?_) #[true, false, true, true, true, false, true, true, true, false, false, false, false, false, false, false, false, false, false] rfl rfl (by kernel_rfl) (fun _ _ _ h => h) (Or.inl ⟨by rfl, ?_⟩) ?_ ?_
      rotate_left
      · intro w'
        go_simp
        with_reducible rfl
      rotate_left
      · simp only [Act.put, List.setIfInBounds_toArray, List.set_cons_zero, List.set_cons_succ, i64_w, i32_w]
        rfl
      refine pure_ (i := 12) (N := some 29) (v := ?_) (a' := ?_) #[true, false, true, true, true, false, true, true, true, false, false, false, true, false, false, false, false, false, false] rfl rfl (by kernel_rfl) (fun _ _ _ h => h) (Or.inl ⟨by rfl, ?_⟩) ?_ ?_
      rotate_left
      · intro w'
        go_simp
        with_reducible rfl
      rotate_left
      · simp only [Act.put, List.setIfInBounds_toArray, List.set_cons_zero, List.set_cons_succ, i64_w, i32_w]
        rfl
      refine pure_ (i := 13) (N := some 30) (v := ?_) (a' := ?_) #[true, false, true, true, true, false, true, true, true, false, false, false, true, true, false, false, false, false, false] rfl rfl (by kernel_rfl) (fun _ _ _ h => h) (Or.inl ⟨by rfl, ?_⟩) ?_ ?_
      rotate_left
      · intro w'
        go_simp
        with_reducible rfl
      rotate_left
      · simp only [Act.put, List.setIfInBounds_toArray, List.set_cons_zero, List.set_cons_succ, i64_w, i32_w]
        rfl
      refine pure_ (i := 14) (N := some 31) (v := ?_) (a' := ?_) #[true, false, true, true, true, false, true, true, true, false, false, false, true, true, true, false, false, false, false] rfl rfl (by kernel_rfl) (fun _ _ _ h => h) (Or.inl ⟨by rfl, ?_⟩) ?_ ?_
      rotate_left
      · intro w'
        go_simp
        with_reducible rfl
      rotate_left
      · simp only [Act.put, List.setIfInBounds_toArray, List.set_cons_zero, List.set_cons_succ, i64_w, i32_w]
        rfl
      refine take_ (i := 5) (N := some 22) (v := ?_) (a' := ?_) #[true, false, true, true, true, true, true, true, true, false, false, false, true, true, true, false, false, false, false] rfl rfl (by kernel_rfl) (fun _ _ _ h => h) (Or.inl ⟨by rfl, ?_⟩) hHeld ?_ ?_
      rotate_left
      · rintro w' ⟨s0, s1, s2⟩
        go_simp
        with_reducible rfl
      rotate_left
      · simp only [Act.put, List.setIfInBounds_toArray, List.set_cons_zero, List.set_cons_succ, i64_w, i32_w]
        rfl
      refine take_ (i := 9) (N := some 26) (v := ?_) (a' := ?_) #[true, false, true, true, true, true, true, true, true, true, false, false, true, true, true, false, false, false, false] rfl rfl (by kernel_rfl) (fun _ _ _ h => h) (Or.inl ⟨by rfl, ?_⟩) hHeld ?_ ?_
      rotate_left
      · rintro w' ⟨s0, s1, s2⟩
        go_simp
        with_reducible rfl
      rotate_left
      · simp only [Act.put, List.setIfInBounds_toArray, List.set_cons_zero, List.set_cons_succ, i64_w, i32_w]
        rfl
      refine pure_ (i := 10) (N := some 27) (v := ?_) (a' := ?_) #[true, false, true, true, true, true, true, true, true, true, true, false, true, true, true, false, false, false, false] rfl rfl (by kernel_rfl) (fun _ _ _ h => h) (Or.inl ⟨by rfl, ?_⟩) ?_ ?_
      rotate_left
      · intro w'
        go_simp
        with_reducible rfl
      rotate_left
      · simp only [Act.put, List.setIfInBounds_toArray, List.set_cons_zero, List.set_cons_succ, i64_w, i32_w]
        rfl
      refine pure_ (i := 11) (N := some 28) (v := ?_) (a' := ?_) #[true, false, true, true, true, true, true, true, true, true, true, true, true, true, true, false, false, false, false] rfl rfl (by kernel_rfl) (fun _ _ _ h => h) (Or.inl ⟨by rfl, ?_⟩) ?_ ?_
      rotate_left
      · intro w'
        go_simp
        with_reducible rfl
      rotate_left
      · simp only [Act.put, List.setIfInBounds_toArray, List.set_cons_zero, List.set_cons_succ, i64_w, i32_w]
        rfl
      refine take_ (i := 15) (N := some 32) (v := ?_) (a' := ?_) #[true, false, true, true, true, true, true, true, true, true, true, true, true, true, true, true, false, false, false] rfl rfl (by kernel_rfl) (fun _ _ _ h => h) (Or.inl ⟨by rfl, ?_⟩) hHeld ?_ ?_
      rotate_left
      · rintro w' ⟨s0, s1, s2⟩
        go_simp
        with_reducible rfl
      rotate_left
      · simp only [Act.put, List.setIfInBounds_toArray, List.set_cons_zero, List.set_cons_succ, i64_w, i32_w]
        rfl
      refine pure_ (i := 16) (N := some 33) (v := ?_) (a' := ?_) #[true, false, true, true, true, true, true, true, true, true, true, true, true, true, true, true, true, false, false] rfl rfl (by kernel_rfl) (fun _ _ _ h => h) (Or.inl ⟨by rfl, ?_⟩) ?_ ?_
      rotate_left
      · intro w'
        go_simp
        with_reducible rfl
      rotate_left
      · simp only [Act.put, List.setIfInBounds_toArray, List.set_cons_zero, List.set_cons_succ, i64_w, i32_w]
        rfl
      refine one_ (i := 1) (N := some 18) #[true, true, true, true, true, true, true, true, true, true, true, true, true, true, true, true, true, false, false] rfl rfl (by kernel_rfl) (by decide) (fun K hK => ?_)
      refine goes_ Try.func17 (by kernel_rfl) rfl #[.pointer (some ⟨g, 0, none⟩)] (by rfl) rfl rfl (by simp only [List.map_toArray, List.map_cons, List.map_nil]; rfl) ?_
      with_reducible refine (CBY.out).mono ?_
      rintro e w3 ⟨rfl, hw3⟩
      refine ⟨_, rfl, ?_⟩
      obtain rfl := hw3.symm
      refine hK.out _ _ ⟨x0, x3, x4⟩ (fun hHeld => ?_)
      clear hK K
      refine norm_ (a' := ?_) ?_ ?_
      rotate_left
      · show Act.put _ (some 18) _ = _
        simp only [Act.put, List.setIfInBounds_toArray, List.set_cons_zero, List.set_cons_succ, i64_w, i32_w]
        rfl
      refine last_ (i := 17) (N := some 34) #[true, true, true, true, true, true, true, true, true, true, true, true, true, true, true, true, true, true, false] rfl rfl (by kernel_rfl) (by decide) (fun K hK => ?_)
      refine goes_ Try.func28 (by kernel_rfl) rfl #[.int .i64 S, .int .i64 X] (by rfl) rfl rfl (by simp only [List.map_toArray, List.map_cons, List.map_nil]; rfl) ?_
      with_reducible refine (CR.out _).mono ?_
      rintro e w4 ⟨rfl, hB4⟩
      refine ⟨_, rfl, ?_⟩
      refine hK.out _ _ ?_
      clear hK K
      refine norm_ (a' := ?_) ?_ ?_
      rotate_left
      · show Act.put _ (some 34) _ = _
        simp only [Act.put, List.setIfInBounds_toArray, List.set_cons_zero, List.set_cons_succ, i64_w, i32_w]
        rfl
      refine pure_ (i := 18) (N := some 2) (v := ?_) (a' := ?_) #[true, true, true, true, true, true, true, true, true, true, true, true, true, true, true, true, true, true, true] rfl rfl (by kernel_rfl) (fun _ _ _ h => h) (Or.inl ⟨by rfl, ?_⟩) ?_ ?_
      rotate_left
      · intro w'
        go_simp
        with_reducible rfl
      rotate_left
      · simp only [Act.put, List.setIfInBounds_toArray, List.set_cons_zero, List.set_cons_succ, i64_w, i32_w]
        rfl
      refine done_ (by kernel_rfl) ?_
      go_wp2_with fail
      all_goals go_ret
      refine ⟨ret_int ?_, HB1.out.drew.trans (hB4.mono HB1.out.drew.size)⟩
      rw [HR.out, HX.out]
      rfl
    · have CR := Aside0.mk (CR0 window ⟨by omega, by omega⟩)
      have CBY1 := Aside0.mk CBY0
      clear CR0 CBY0
      go_enter Try.func15, Try.ntmps15
      go_wp2_with fail
      refine CF.out.mono ?_
      rintro e w1 ⟨rfl, hB1⟩
      have HB1 := Aside0.mk hB1
      have CBY : Aside0 _ := ⟨CBY1.out w1.drew hB1.drew⟩
      have HW := (HH.out.below hB1).drewn
      have x0 := HW.c0
      dsimp only at x0
      clear HW hB1 x2
      go_wp2_with fail
      refine start_ (n := 8) (S := fun w' => w'.cell? ⟨g, 0, none⟩ = some (.int .i64 window)) (ds := [6]) #[false, false, false, false, false, false, false, false] (by kernel_rfl) rfl rfl (x0) (fun hHeld => ?_)
      refine pure_ (i := 0) (N := some 10) (v := ?_) (a' := ?_) #[true, false, false, false, false, false, false, false] rfl rfl (by kernel_rfl) (fun _ _ _ h => h) (Or.inl ⟨by rfl, ?_⟩) ?_ ?_
      rotate_left
      · intro w'
        go_simp
        with_reducible rfl
      rotate_left
      · simp only [Act.put, List.setIfInBounds_toArray, List.set_cons_zero, List.set_cons_succ, i64_w, i32_w]
        rfl
      refine pure_ (i := 2) (N := some 12) (v := ?_) (a' := ?_) #[true, false, true, false, false, false, false, false] rfl rfl (by kernel_rfl) (fun _ _ _ h => h) (Or.inl ⟨by rfl, ?_⟩) ?_ ?_
      rotate_left
      · intro w'
        go_simp
        with_reducible rfl
      rotate_left
      · simp only [Act.put, List.setIfInBounds_toArray, List.set_cons_zero, List.set_cons_succ, i64_w, i32_w]
        rfl
      refine pure_ (i := 3) (N := some 13) (v := ?_) (a' := ?_) #[true, false, true, true, false, false, false, false] rfl rfl (by kernel_rfl) (fun _ _ _ h => h) (Or.inl ⟨by rfl, ?_⟩) ?_ ?_
      rotate_left
      · intro w'
        go_simp
        with_reducible rfl
      rotate_left
      · simp only [Act.put, List.setIfInBounds_toArray, List.set_cons_zero, List.set_cons_succ, i64_w, i32_w]
        rfl
      refine pure_ (i := 4) (N := some 14) (v := ?_) (a' := ?_) #[true, false, true, true, true, false, false, false] rfl rfl (by kernel_rfl) (fun _ _ _ h => h) (Or.inl ⟨by rfl, ?_⟩) ?_ ?_
      rotate_left
      · intro w'
        go_simp
        with_reducible rfl
      rotate_left
      · simp only [Act.put, List.setIfInBounds_toArray, List.set_cons_zero, List.set_cons_succ, i64_w, i32_w]
        rfl
      refine take_ (i := 5) (N := some 15) (v := ?_) (a' := ?_) #[true, false, true, true, true, true, false, false] rfl rfl (by kernel_rfl) (fun _ _ _ h => h) (Or.inl ⟨by rfl, ?_⟩) hHeld ?_ ?_
      rotate_left
      · intro w' s0
        go_simp
        with_reducible rfl
      rotate_left
      · simp only [Act.put, List.setIfInBounds_toArray, List.set_cons_zero, List.set_cons_succ, i64_w, i32_w]
        rfl
      refine one_ (i := 1) (N := some 11) #[true, true, true, true, true, true, false, false] rfl rfl (by kernel_rfl) (by decide) (fun K hK => ?_)
      refine goes_ Try.func17 (by kernel_rfl) rfl #[.pointer (some ⟨g, 0, none⟩)] (by rfl) rfl rfl (by simp only [List.map_toArray, List.map_cons, List.map_nil]; rfl) ?_
      with_reducible refine (CBY.out).mono ?_
      rintro e w3 ⟨rfl, hw3⟩
      refine ⟨_, rfl, ?_⟩
      obtain rfl := hw3.symm
      refine hK.out _ _ (x0) (fun hHeld => ?_)
      clear hK K
      refine norm_ (a' := ?_) ?_ ?_
      rotate_left
      · show Act.put _ (some 11) _ = _
        simp only [Act.put, List.setIfInBounds_toArray, List.set_cons_zero, List.set_cons_succ, i64_w, i32_w]
        rfl
      refine last_ (i := 6) (N := some 16) #[true, true, true, true, true, true, true, false] rfl rfl (by kernel_rfl) (by decide) (fun K hK => ?_)
      refine goes_ Try.func28 (by kernel_rfl) rfl #[.int .i64 S, .int .i64 window] (by rfl) rfl rfl (by simp only [List.map_toArray, List.map_cons, List.map_nil]; rfl) ?_
      with_reducible refine (CR.out _).mono ?_
      rintro e w4 ⟨rfl, hB4⟩
      refine ⟨_, rfl, ?_⟩
      refine hK.out _ _ ?_
      clear hK K
      refine norm_ (a' := ?_) ?_ ?_
      rotate_left
      · show Act.put _ (some 16) _ = _
        simp only [Act.put, List.setIfInBounds_toArray, List.set_cons_zero, List.set_cons_succ, i64_w, i32_w]
        rfl
      refine pure_ (i := 7) (N := some 2) (v := ?_) (a' := ?_) #[true, true, true, true, true, true, true, true] rfl rfl (by kernel_rfl) (fun _ _ _ h => h) (Or.inl ⟨by rfl, ?_⟩) ?_ ?_
      rotate_left
      · intro w'
        go_simp
        with_reducible rfl
      rotate_left
      · simp only [Act.put, List.setIfInBounds_toArray, List.set_cons_zero, List.set_cons_succ, i64_w, i32_w]
        rfl
      refine done_ (by kernel_rfl) ?_
      go_wp2_with fail
      all_goals go_ret
      refine ⟨ret_int ?_, HB1.out.drew.trans (hB4.mono HB1.out.drew.size)⟩
      rw [HR.out]
      rfl
def RLossRel (ls : List Bool) (v3 v4 : Value) : Prop := ∃ j : Nat, v3 = .int .i64 (lossN (ls.take j) : Nat) ∧ v4 = .int .i64 j ∧ j ≤ ls.length
set_option maxHeartbeats 4000000 in
theorem rloss_any {w0 w : World} {base g : Nat} {s : Mt} {k : Nat} (h : RMtGo w0 w base g s) (ho : MtOk s k) : Calls Try.prog 21 #[.pointer (some ⟨g, 0, none⟩)] w fun e w' => e = .returned (.int .i64 s.loss) ∧ w' = w := by
  obtain ⟨vl, vs, h⟩ := h
  have x5 := h.c5
  have hrs := h.rs
  dsimp only at x5 hrs
  have hl := ho.lsn
  obtain ⟨V, hV⟩ : ∃ V, V = s.loss := ⟨_, rfl⟩
  unfold Mt.loss at hV
  rw [show s.loss = V from by rw [hV]; rfl]
  generalize s.ls = ls at *
  obtain ⟨n, hn⟩ : ∃ n, n = ls.length := ⟨_, rfl⟩
  rw [← hn] at hrs hl
  have HN := Aside0.mk hn
  have HV := Aside0.mk hV
  have HRS := Aside0.mk hrs
  obtain ⟨A, c, hvs, hnc, hcm⟩ := hrs.form
  subst hvs
  clear h hrs ho hn hV
  by_cases h0 : n = 0
  · subst h0
    go_enter Try.func21, Try.ntmps21
    go_wp2_with fail
    all_goals go_ret
    refine ⟨ret_int ?_, rfl⟩
    rw [HV.out, if_pos HN.out.symm]
  · have d0 : ((n : Int) == 0) = false := by simp; omega
    have d1 : ¬ ((n : Int) = 0) := by omega
    go_enter Try.func21, Try.ntmps21
    go_wp2_with fail
    go_loop [3, 4] (fun v3 v4 => RLossRel ls v3 v4) (fun _ v => n - (intOf v).toNat)
    case atStart => exact ⟨0, by simp [lossN], rfl, by omega⟩
    case round =>
      obtain ⟨j, rfl, rfl, hj⟩ := hrel
      rw [← HN.out] at hj
      by_cases hlt : j < n
      · obtain ⟨b, hb⟩ : ∃ b, ls[j]? = some b := ⟨ls[j]'(by rw [← HN.out]; exact hlt), List.getElem?_eq_getElem (by rw [← HN.out]; exact hlt)⟩
        obtain ⟨gg, oo, cc, ev, _, _, _, hx⟩ := HRS.out.some_ (by omega)
        injection ev with ev ev3 ev4
        clear ev3
        subst ev4
        subst ev
        have y0 := hx _ _ (intV_get hb)
        have hs := lossN_succ hb
        have hle := lossN_le (ls.take j)
        have hle2 : (ls.take j).length ≤ 64 := by rw [List.length_take]; omega
        obtain ⟨L, hL⟩ : ∃ L, L = lossN (ls.take j) := ⟨_, rfl⟩
        rw [← hL] at hs hle ⊢
        have HS := Aside0.mk hs
        clear hs hb hL hx
        cases b
        · rw [show bi false = 0 from rfl] at y0
          go_wp2_with fail
          exact ⟨⟨j + 1, by rw [HS.out]; simp, by simp, by rw [← HN.out]; omega⟩, by simp [intOf]; omega⟩
        · rw [show bi true = 1 from rfl] at y0
          go_wp2_with fail
          exact ⟨⟨j + 1, by rw [HS.out]; simp, by simp, by rw [← HN.out]; omega⟩, by simp [intOf]; omega⟩
      · have e2 : j = n := by omega
        subst e2
        have ht : ls.take j = ls := by rw [List.take_of_length_le]; rw [← HN.out]; exact Nat.le_refl _
        rw [ht]
        have hle := lossN_le ls
        rw [← HN.out] at hle
        have hv := HV.out
        rw [if_neg (by rw [← HN.out]; exact h0), ← HN.out] at hv
        have HV2 := Aside0.mk hv
        generalize lossN ls = L at *
        clear hv ht
        go_wp2_with fail
        all_goals go_ret
        refine ⟨ret_int ?_, rfl⟩
        rw [HV2.out, Int.mul_comm]
theorem RMtGo.touch {w w' : World} {S : Nat → Prop} {base g : Nat} {s : Mt} (h : RMtGo w w base g s) (T : Touch S w w') (hg : ¬ S g) (hS : ∀ k, S k → (w.shape? k).map (·.1) ≠ some 58 ∧ (w.shape? k).map (·.1) ≠ some 3) : RMtGo w' w' base g s := by
  obtain ⟨vl, vs, k⟩ := h
  exact ⟨vl, vs, (T.block g (blk_lt k.c) hg).trans k.c, k.b, k.rl.keep (fun i hi hb hs => T.block i (k.rl.lt hi).1 (fun e => (hS i e).1 hs)), k.rs.keep (fun i hi hb hs => T.block i (k.rs.lt hi).1 (fun e => (hS i e).2 hs)), Touch.refl _ _⟩
theorem RMtGo.block {w0 w : World} {base g : Nat} {s : Mt} (h : RMtGo w0 w base g s) : ∃ cs, w.heap[g]? = some (.cells cs 53 (0, 0)) := by
  obtain ⟨vl, vs, k⟩ := h
  exact ⟨_, k.c⟩
theorem RMtGo.below {w w' : World} {base g : Nat} {s : Mt} (h : RMtGo w w base g s) (hb : Below w.heap.size w w') : RMtGo w' w' base g s := by
  obtain ⟨vl, vs, k⟩ := h
  have h5 := k.below hb
  exact ⟨vl, vs, h5.c, h5.b, h5.rl, h5.rs, Touch.refl _ _⟩
theorem RMtGo.at_ {w0 w : World} {base g : Nat} {s : Mt} (h : RMtGo w0 w base g s) : RMtGo w w base g s := by
  obtain ⟨vl, vs, k⟩ := h
  exact ⟨vl, vs, k.c, k.b, k.rl, k.rs, Touch.refl _ _⟩
theorem RMtGo.tch {w0 w : World} {base g : Nat} {s : Mt} (h : RMtGo w0 w base g s) : Touch (fun k => k = g) w0 w := by
  obtain ⟨vl, vs, k⟩ := h
  exact k.t
theorem shape_of {w : World} {g : Nat} {cs : Array Value} {t : TypeId} {fr : Nat × Nat} (h : w.heap[g]? = some (.cells cs t fr)) : (w.shape? g).map (·.1) = some t := by simp [World.shape?, h]
/-- The two in step. -/
def PlSt (w2 w : World) (base g gq : Nat) (sm sq : Mt) : Prop := ∃ bs, MtIs w base g bs sm ∧ (∀ k, bs = some k → w2.heap.size ≤ k) ∧ RMtGo w w base gq sq ∧ Touch (fun k => k = g ∨ k = gq) w2 w
theorem PlSt.below {w2 w w' : World} {base g gq : Nat} {sm sq : Mt} (h : PlSt w2 w base g gq sm sq) (hb : Below w.heap.size w w') : PlSt w2 w' base g gq sm sq := by
  obtain ⟨bs, h1, h2, h3, h4⟩ := h
  exact ⟨bs, h1.below hb, h2, h3.below hb, h4.below hb⟩
theorem PlSt.lt {w2 w : World} {base g gq : Nat} {sm sq : Mt} (h : PlSt w2 w base g gq sm sq) : g < w.heap.size ∧ gq < w.heap.size ∧ Touch (fun k => k = g ∨ k = gq) w2 w := by
  obtain ⟨bs, h1, h2, h3, h4⟩ := h
  obtain ⟨cs, hc⟩ := h3.block
  exact ⟨h1.lt.1, blk_lt hc, h4⟩
theorem PlSt.m {w2 w w' : World} {base g gq : Nat} {sm sm' sq : Mt} {bs : Option Nat} (h1 : MtIs w base g bs sm) (h2 : ∀ k, bs = some k → w2.heap.size ≤ k) (h3 : RMtGo w w base gq sq) (h4 : Touch (fun k => k = g ∨ k = gq) w2 w) (k : MtGo w w' base g bs sm') : PlSt w2 w' base g gq sm' sq := by
  obtain ⟨bs', k1, k2, k3⟩ := k
  obtain ⟨cs, hc⟩ := h3.block
  obtain ⟨cm, hm⟩ := h1.block
  have hsq := shape_of hc
  have hsm := shape_of hm
  have hsb : ∀ i, bs = some i → (w.shape? i).map (·.1) = some 4 := by
    intro i hi
    obtain ⟨l, vl, vs, q1, q2, q3, q4⟩ := h1
    exact (q4.rs.lt (by rw [← hi, ← q3])).2.2
  refine ⟨bs', k1, fun j hj => ?_, h3.touch k2 ?_ ?_, h4.trans k2 (fun i hi => ?_)⟩
  · rcases k3 j hj with q | q
    · exact h2 j q
    · exact Nat.le_trans h4.size q
  · rintro (e | e)
    · rw [e, hsm] at hsq
      exact absurd hsq (by decide)
    · rw [hsb _ e] at hsq
      exact absurd hsq (by decide)
  · rintro i (e | e)
    · rw [e, hsm]
      exact ⟨by decide, by decide⟩
    · rw [hsb i e]
      exact ⟨by decide, by decide⟩
  · rcases hi with q | q
    · exact .inl (.inl q)
    · exact .inr (h2 i q)
theorem MtGo.box {w w' : World} {base g : Nat} {sm sm' : Mt} {bs : Option Nat} (h1 : MtIs w base g bs sm) (k : MtGo w w' base g bs sm') {b : Nat} {cs : Array Value} {fr : Nat × Nat} (hb : w.heap[b]? = some (.cells cs 31 fr)) : w'.heap[b]? = some (.cells cs 31 fr) := by
  obtain ⟨bs', k1, k2, k3⟩ := k
  obtain ⟨cm, hm⟩ := h1.block
  have hsm := shape_of hm
  have hsx := shape_of hb
  refine (k2.block b (blk_lt hb) ?_).trans hb
  rintro (e | e)
  · rw [e, hsm] at hsx
    exact absurd hsx (by decide)
  · obtain ⟨l, vl, vs, q1, q2, q3, q4⟩ := h1
    have := (q4.rs.lt (by rw [← e, ← q3])).2.2
    rw [hsx] at this
    exact absurd this (by decide)
def BoxKept (w w' : World) : Prop := ∀ (b : Nat) (cs : Array Value) (fr : Nat × Nat), w.heap[b]? = some (Obj.cells cs 31 fr) → w'.heap[b]? = some (Obj.cells cs 31 fr)
theorem PlSt.q {w2 w w' : World} {base g gq : Nat} {sm sq sq' : Mt} {bs : Option Nat} (h1 : MtIs w base g bs sm) (h2 : ∀ k, bs = some k → w2.heap.size ≤ k) (h3 : RMtGo w w base gq sq) (h4 : Touch (fun k => k = g ∨ k = gq) w2 w) (k : RMtGo w w' base gq sq') : PlSt w2 w' base g gq sm sq' := by
  obtain ⟨cs, hc⟩ := h3.block
  obtain ⟨cm, hm⟩ := h1.block
  have hne : gq ≠ g := by
    intro e
    rw [e, hm] at hc
    injection hc with hc
    injection hc with _ hc _
    exact absurd hc (by decide)
  exact ⟨bs, h1.touch1 k.tch hne hc (by decide) (by decide), h2, k.at_, h4.trans k.tch (fun i hi => .inl (.inr hi))⟩
theorem pl_mgot {w2 w : World} {base g gq : Nat} {sm sq : Mt} {k : Nat} (came size : Int) (h : PlSt w2 w base g gq sm sq) (ho : MtOk sm k) (hk : k ≤ 4095) : Calls Try.prog 10 #[.pointer (some ⟨g, 0, none⟩), .int .i64 came, .int .i64 size] w fun e w' => e = .returned (.tuple #[]) ∧ PlSt w2 w' base g gq (sm.got came size) sq ∧ BoxKept w w' := by
  obtain ⟨bs, h1, h2, h3, h4⟩ := h
  refine (mgot_any came size h1 ho hk).mono ?_
  rintro e w' ⟨he, hG⟩
  exact ⟨he, PlSt.m h1 h2 h3 h4 hG, fun b cs fr hb => hG.box h1 hb⟩
theorem pl_mlost {w2 w : World} {base g gq : Nat} {sm sq : Mt} {k : Nat} (n : Int) (h : PlSt w2 w base g gq sm sq) (ho : MtOk sm k) : Calls Try.prog 12 #[.pointer (some ⟨g, 0, none⟩), .int .i64 n] w fun e w' => e = .returned (.tuple #[]) ∧ PlSt w2 w' base g gq (sm.lost n) sq ∧ BoxKept w w' := by
  obtain ⟨bs, h1, h2, h3, h4⟩ := h
  unfold Mt.lost
  by_cases hn : 0 ≤ n ∧ n ≤ 4096
  · rw [if_pos hn]
    have e : n = ((n.toNat : Nat) : Int) := by omega
    have hc := mlost_good n.toNat h1 ho (by omega)
    rw [← e] at hc
    refine hc.mono ?_
    rintro e w' ⟨he, hG⟩
    exact ⟨he, PlSt.m h1 h2 h3 h4 hG, fun b cs fr hb => hG.box h1 hb⟩
  · rw [if_neg hn]
    refine (mlost_bad (w := w) (A := some ⟨g, 0, none⟩) n (by omega)).mono ?_
    rintro e w' ⟨he, rfl⟩
    exact ⟨he, ⟨bs, h1, h2, h3, h4⟩, fun b cs fr hb => hb⟩
theorem pl_qgot {w2 w : World} {base g gq : Nat} {sm sq : Mt} {k : Nat} (came size : Int) (h : PlSt w2 w base g gq sm sq) (ho : MtOk sq k) (hk : k ≤ 4095) : Calls Try.prog 11 #[.pointer (some ⟨gq, 0, none⟩), .int .i64 came, .int .i64 size] w fun e w' => e = .returned (.tuple #[]) ∧ PlSt w2 w' base g gq sm (sq.got came size) := by
  obtain ⟨bs, h1, h2, h3, h4⟩ := h
  refine (rgot_any came size h3 ho hk).mono ?_
  rintro e w' ⟨he, hG⟩
  exact ⟨he, PlSt.q h1 h2 h3 h4 hG⟩
theorem pl_qlost {w2 w : World} {base g gq : Nat} {sm sq : Mt} {k : Nat} (n : Int) (h : PlSt w2 w base g gq sm sq) (ho : MtOk sq k) : Calls Try.prog 13 #[.pointer (some ⟨gq, 0, none⟩), .int .i64 n] w fun e w' => e = .returned (.tuple #[]) ∧ PlSt w2 w' base g gq sm (sq.lost n) := by
  obtain ⟨bs, h1, h2, h3, h4⟩ := h
  refine (rlost_any n h3 ho).mono ?_
  rintro e w' ⟨he, hG⟩
  exact ⟨he, PlSt.q h1 h2 h3 h4 hG⟩
theorem pl_mrate {w2 w : World} {base g gq : Nat} {sm sq : Mt} {k : Nat} (h : PlSt w2 w base g gq sm sq) (ho : MtOk sm k) (hk : k ≤ 4096) : Calls Try.prog 14 #[.pointer (some ⟨g, 0, none⟩)] w fun e w' => e = .returned (.int .i64 sm.rate) ∧ PlSt w2 w' base g gq sm sq := by
  have hh := h
  obtain ⟨bs, h1, h2, h3, h4⟩ := h
  refine (mrate_any h1 ho hk).mono ?_
  rintro e w' ⟨he, hb⟩
  exact ⟨he, hh.below hb⟩
theorem pl_qrate {w2 w : World} {base g gq : Nat} {sm sq : Mt} {k : Nat} (h : PlSt w2 w base g gq sm sq) (ho : MtOk sq k) (hk : k ≤ 4096) : Calls Try.prog 15 #[.pointer (some ⟨gq, 0, none⟩)] w fun e w' => e = .returned (.int .i64 sq.rate) ∧ PlSt w2 w' base g gq sm sq := by
  have hh := h
  obtain ⟨bs, h1, h2, h3, h4⟩ := h
  refine (rrate_any h3 ho hk).mono ?_
  rintro e w' ⟨he, hb⟩
  exact ⟨he, hh.below hb⟩
theorem pl_mbytes {w2 w : World} {base g gq : Nat} {sm sq : Mt} {k : Nat} (h : PlSt w2 w base g gq sm sq) (ho : MtOk sm k) (hk : k ≤ 4096) : Calls Try.prog 16 #[.pointer (some ⟨g, 0, none⟩)] w fun e w' => e = .returned (.int .i64 (sumS sm.l)) ∧ PlSt w2 w' base g gq sm sq := by
  have hh := h
  obtain ⟨bs, h1, h2, h3, h4⟩ := h
  refine (mbytes_any h1).mono ?_
  rintro e w' ⟨he, rfl⟩
  exact ⟨he, hh⟩
theorem pl_qbytes {w2 w : World} {base g gq : Nat} {sm sq : Mt} {k : Nat} (h : PlSt w2 w base g gq sm sq) (ho : MtOk sq k) (hk : k ≤ 4096) : Calls Try.prog 17 #[.pointer (some ⟨gq, 0, none⟩)] w fun e w' => e = .returned (.int .i64 (sumS sq.l)) ∧ PlSt w2 w' base g gq sm sq := by
  have hh := h
  obtain ⟨bs, h1, h2, h3, h4⟩ := h
  refine (rbytes_any h3 ho hk).mono ?_
  rintro e w' ⟨he, rfl⟩
  exact ⟨he, hh⟩
theorem pl_mfull {w2 w : World} {base g gq : Nat} {sm sq : Mt} {k : Nat} (h : PlSt w2 w base g gq sm sq) (ho : MtOk sm k) (hk : k ≤ 4096) : Calls Try.prog 18 #[.pointer (some ⟨g, 0, none⟩)] w fun e w' => e = .returned (.bool sm.full) ∧ PlSt w2 w' base g gq sm sq := by
  have hh := h
  obtain ⟨bs, h1, h2, h3, h4⟩ := h
  refine (mfull_any h1 ho).mono ?_
  rintro e w' ⟨he, hb⟩
  exact ⟨he, hh.below hb⟩
theorem pl_qfull {w2 w : World} {base g gq : Nat} {sm sq : Mt} {k : Nat} (h : PlSt w2 w base g gq sm sq) (ho : MtOk sq k) (hk : k ≤ 4096) : Calls Try.prog 19 #[.pointer (some ⟨gq, 0, none⟩)] w fun e w' => e = .returned (.bool sq.full) ∧ PlSt w2 w' base g gq sm sq := by
  have hh := h
  obtain ⟨bs, h1, h2, h3, h4⟩ := h
  refine (rfull_any h3 ho).mono ?_
  rintro e w' ⟨he, hb⟩
  exact ⟨he, hh.below hb⟩
theorem pl_mloss {w2 w : World} {base g gq : Nat} {sm sq : Mt} {k : Nat} (h : PlSt w2 w base g gq sm sq) (ho : MtOk sm k) (hk : k ≤ 4096) : Calls Try.prog 20 #[.pointer (some ⟨g, 0, none⟩)] w fun e w' => e = .returned (.int .i64 sm.loss) ∧ PlSt w2 w' base g gq sm sq := by
  have hh := h
  obtain ⟨bs, h1, h2, h3, h4⟩ := h
  refine (mloss_any h1 ho).mono ?_
  rintro e w' ⟨he, hb⟩
  exact ⟨he, hh.below hb⟩
theorem pl_qloss {w2 w : World} {base g gq : Nat} {sm sq : Mt} {k : Nat} (h : PlSt w2 w base g gq sm sq) (ho : MtOk sq k) (hk : k ≤ 4096) : Calls Try.prog 21 #[.pointer (some ⟨gq, 0, none⟩)] w fun e w' => e = .returned (.int .i64 sq.loss) ∧ PlSt w2 w' base g gq sm sq := by
  have hh := h
  obtain ⟨bs, h1, h2, h3, h4⟩ := h
  refine (rloss_any h3 ho).mono ?_
  rintro e w' ⟨he, rfl⟩
  exact ⟨he, hh⟩
def PlRel (w2 : World) (base g gq n : Nat) (v : Value) (wr : World) : Prop := ∃ (k : Nat) (s : Mt), v = .int .i64 k ∧ k ≤ n ∧ k ≤ 200 ∧ Aside0 (MtOk s k) ∧ Aside0 (PlSt w2 wr base g gq s s)
set_option maxHeartbeats 8000000 in
set_option maxRecDepth 100000 in
theorem plays_good (window : Int) (A : Option Addr) (n c : Nat) (w : World) (h0 : 1 ≤ window) (h1 : window ≤ 1125899906842624) (hn : n ≤ 9223372036854775807) (hl : RStepsAt w A n) :
    Calls Try.prog 3 #[.int .i64 window, .slice A n c] w fun e w' => e = .returned (.bool true) ∧ Below w.heap.size w w' := by
  have HL := Aside0.mk hl
  clear hl
  go_enter Try.func3, Try.ntmps3
  go_wp2_with fail
  refine (mnew_good window w.heap.size w h0 h1 (Nat.le_refl _)).mono ?_
  rintro e w1 ⟨g, rfl, hM, hg, hB⟩
  have hs1 := hB.size
  have HM := Aside0.mk hM
  have HB1 := Aside0.mk hB
  clear hM hB
  go_wp2_with fail
  refine (rmnew_good window w.heap.size w1 h0 h1 hs1).mono ?_
  rintro e w2 ⟨gq, rfl, hQ, hgq, hB⟩
  have hs2 := hB.size
  have HB := Aside0.mk (HB1.out.trans (hB.mono hs1))
  have HPL : Aside0 (PlSt w2 w2 w.heap.size g gq (Mt.made window) (Mt.made window)) := ⟨none, HM.out.below hB, fun k hk => (by cases hk), hQ, Touch.refl _ _⟩
  have hgl := HM.out.lt.1
  clear hQ hB
  go_wp2_with fail
  go_loopw [9] (fun v wr => PlRel w2 w.heap.size g gq n v wr) (fun v _ => n - (intOf v).toNat)
  case atStart => exact ⟨0, _, rfl, by omega, by omega, ⟨made_okM h0 h1⟩, HPL⟩
  case round =>
    obtain ⟨k, s, rfl, hk, hk2, hO, hS⟩ := hrel
    have hT := Aside0.mk hS.out.lt
    by_cases hlt : k < n ∧ k < 200
    · obtain ⟨hkn, hk200⟩ := hlt
      obtain ⟨ad, c0, c1, c2, rfl, g0, g1, g2, i0, i1, i2⟩ := HL.out k hkn
      have hadb : (ad.add (k * 3)).block < w.heap.size := World.block_lt_of_cell? w _ g0
      have hcell : ∀ (p : Addr) (v : Value), p.block < w.heap.size → w.cell? p = some v → wr.cell? p = some v := by
        intro p v hp hc
        have e1 : wr.heap[p.block]? = w2.heap[p.block]? := hT.out.2.2.block _ (by omega) (by omega)
        have e2 : w2.heap[p.block]? = w.heap[p.block]? := HB.out.block _ hp
        rw [World.cell?_of_block (w := w) (e1.trans e2)]
        exact hc
      have t0 := hcell _ _ hadb g0
      have t1 := hcell ⟨(ad.add (k * 3)).block, (ad.add (k * 3)).off + 1, none⟩ _ hadb g1
      have t2 := hcell ⟨(ad.add (k * 3)).block, (ad.add (k * 3)).off + 2, none⟩ _ hadb g2
      have hSa := Aside0.mk (hS.out.below ((Below.refl _ _).alloc (Nat.le_refl _) (.cells #[.int .i64 c0, .int .i64 c1, .int .i64 c2] 31)))
      have HEa : Aside0 ((wr.alloc (.cells #[.int .i64 c0, .int .i64 c1, .int .i64 c2] 31)).heap[wr.heap.size]? = some (.cells #[.int .i64 c0, .int .i64 c1, .int .i64 c2] 31 (0, 0))) := ⟨blk_new wr _⟩
      clear g0 g1 g2 hcell i0 i1 i2
      obtain ⟨hlg, hlq, hTT⟩ := hT.out
      have HTT := Aside0.mk hTT
      clear hTT
      have hwz : wr.heap.size ≠ g ∧ wr.heap.size ≠ gq := ⟨by omega, by omega⟩
      by_cases h0 : c0 = 0
      · subst h0
        go_wp2_with fail
        refine (pl_mgot c2 c1 hSa.out hO.out (by omega)).mono ?_
        rintro e w3 ⟨rfl, h3, hbx⟩
        have hE := hbx _ _ _ HEa.out
        have u1 := blk_cell hE 1
        have u2 := blk_cell hE 2
        simp only [List.getElem?_toArray, List.getElem?_cons_zero, List.getElem?_cons_succ] at u1 u2
        have HS3 := Aside0.mk h3
        clear t0 t1 t2 h3 hE hbx
        go_wp2_with fail
        refine (pl_qgot c2 c1 HS3.out hO.out (by omega)).mono ?_
        rintro e w4 ⟨rfl, h4⟩
        have HS := Aside0.mk h4
        have HO := Aside0.mk (hO.out.got c2 c1)
        clear h4 u1 u2
        obtain ⟨RR, hRR⟩ : ∃ R, R = (s.got c2 c1).rate := ⟨_, rfl⟩
        obtain ⟨BB, hBB⟩ : ∃ R, R = sumS (s.got c2 c1).l := ⟨_, rfl⟩
        obtain ⟨FF, hFF⟩ : ∃ R, R = (s.got c2 c1).full := ⟨_, rfl⟩
        obtain ⟨LL, hLL⟩ : ∃ R, R = (s.got c2 c1).loss := ⟨_, rfl⟩
        have HRR := Aside0.mk hRR
        have HBB := Aside0.mk hBB
        have HFF := Aside0.mk hFF
        have HLL := Aside0.mk hLL
        clear hRR hBB hFF hLL
        go_wp2_with fail
        refine (pl_mrate HS.out HO.out (by omega)).mono ?_
        rintro e v1 ⟨rfl, hv⟩
        rw [← HRR.out]
        have HS := Aside0.mk hv
        clear hv
        go_wp2_with fail
        refine (pl_qrate HS.out HO.out (by omega)).mono ?_
        rintro e v1 ⟨rfl, hv⟩
        rw [← HRR.out]
        have HS := Aside0.mk hv
        clear hv
        go_wp2_with fail
        refine (pl_mbytes HS.out HO.out (by omega)).mono ?_
        rintro e v1 ⟨rfl, hv⟩
        rw [← HBB.out]
        have HS := Aside0.mk hv
        clear hv
        go_wp2_with fail
        refine (pl_qbytes HS.out HO.out (by omega)).mono ?_
        rintro e v1 ⟨rfl, hv⟩
        rw [← HBB.out]
        have HS := Aside0.mk hv
        clear hv
        go_wp2_with fail
        refine (pl_mfull HS.out HO.out (by omega)).mono ?_
        rintro e v1 ⟨rfl, hv⟩
        rw [← HFF.out]
        have HS := Aside0.mk hv
        clear hv
        go_wp2_with fail
        refine (pl_qfull HS.out HO.out (by omega)).mono ?_
        rintro e v1 ⟨rfl, hv⟩
        rw [← HFF.out]
        have HS := Aside0.mk hv
        clear hv
        go_wp2_with fail
        refine (pl_mloss HS.out HO.out (by omega)).mono ?_
        rintro e v1 ⟨rfl, hv⟩
        rw [← HLL.out]
        have HS := Aside0.mk hv
        clear hv
        go_wp2_with fail
        refine (pl_qloss HS.out HO.out (by omega)).mono ?_
        rintro e v1 ⟨rfl, hv⟩
        rw [← HLL.out]
        have HS := Aside0.mk hv
        clear hv
        go_wp2_with fail
        exact ⟨⟨k + 1, s.got c2 c1, by simp, by omega, by omega, HO, HS⟩, by simp [intOf]; omega⟩
      · have d0 : (c0 == 0) = false := beq_eq_false_iff_ne.2 h0
        go_wp2_with fail
        refine (pl_mlost c1 hSa.out hO.out).mono ?_
        rintro e w3 ⟨rfl, h3, hbx⟩
        have hE := hbx _ _ _ HEa.out
        have u1 := blk_cell hE 1
        have u2 := blk_cell hE 2
        simp only [List.getElem?_toArray, List.getElem?_cons_zero, List.getElem?_cons_succ] at u1 u2
        have HS3 := Aside0.mk h3
        clear t0 t1 t2 h3 hE hbx
        go_wp2_with fail
        refine (pl_qlost c1 HS3.out hO.out).mono ?_
        rintro e w4 ⟨rfl, h4⟩
        have HS := Aside0.mk h4
        have HO := Aside0.mk ((hO.out.lost c1).mono (Nat.le_succ k))
        clear h4 u1 u2
        obtain ⟨RR, hRR⟩ : ∃ R, R = (s.lost c1).rate := ⟨_, rfl⟩
        obtain ⟨BB, hBB⟩ : ∃ R, R = sumS (s.lost c1).l := ⟨_, rfl⟩
        obtain ⟨FF, hFF⟩ : ∃ R, R = (s.lost c1).full := ⟨_, rfl⟩
        obtain ⟨LL, hLL⟩ : ∃ R, R = (s.lost c1).loss := ⟨_, rfl⟩
        have HRR := Aside0.mk hRR
        have HBB := Aside0.mk hBB
        have HFF := Aside0.mk hFF
        have HLL := Aside0.mk hLL
        clear hRR hBB hFF hLL
        go_wp2_with fail
        refine (pl_mrate HS.out HO.out (by omega)).mono ?_
        rintro e v1 ⟨rfl, hv⟩
        rw [← HRR.out]
        have HS := Aside0.mk hv
        clear hv
        go_wp2_with fail
        refine (pl_qrate HS.out HO.out (by omega)).mono ?_
        rintro e v1 ⟨rfl, hv⟩
        rw [← HRR.out]
        have HS := Aside0.mk hv
        clear hv
        go_wp2_with fail
        refine (pl_mbytes HS.out HO.out (by omega)).mono ?_
        rintro e v1 ⟨rfl, hv⟩
        rw [← HBB.out]
        have HS := Aside0.mk hv
        clear hv
        go_wp2_with fail
        refine (pl_qbytes HS.out HO.out (by omega)).mono ?_
        rintro e v1 ⟨rfl, hv⟩
        rw [← HBB.out]
        have HS := Aside0.mk hv
        clear hv
        go_wp2_with fail
        refine (pl_mfull HS.out HO.out (by omega)).mono ?_
        rintro e v1 ⟨rfl, hv⟩
        rw [← HFF.out]
        have HS := Aside0.mk hv
        clear hv
        go_wp2_with fail
        refine (pl_qfull HS.out HO.out (by omega)).mono ?_
        rintro e v1 ⟨rfl, hv⟩
        rw [← HFF.out]
        have HS := Aside0.mk hv
        clear hv
        go_wp2_with fail
        refine (pl_mloss HS.out HO.out (by omega)).mono ?_
        rintro e v1 ⟨rfl, hv⟩
        rw [← HLL.out]
        have HS := Aside0.mk hv
        clear hv
        go_wp2_with fail
        refine (pl_qloss HS.out HO.out (by omega)).mono ?_
        rintro e v1 ⟨rfl, hv⟩
        rw [← HLL.out]
        have HS := Aside0.mk hv
        clear hv
        go_wp2_with fail
        exact ⟨⟨k + 1, s.lost c1, by simp, by omega, by omega, HO, HS⟩, by simp [intOf]; omega⟩
    · have hBe : Aside0 (∀ w'', Below wr.heap.size wr w'' → Below w.heap.size w w'') := ⟨fun w'' h => (HB.out.trans (hT.out.2.2.toBelow HB.out.size (fun i hi => by omega))).trans (h.mono (by have := hT.out.2.2.size; have := HB.out.size; omega))⟩
      clear hT
      by_cases hkn : k < n
      · have hk2 : ¬ k < 200 := fun hh => hlt ⟨hkn, hh⟩
        clear hlt
        go_wp2_with fail
        refine (wakes_any _).mono ?_
        rintro e w5 ⟨rfl, hB5⟩
        go_wp2_with fail
        go_ret
        exact ⟨rfl, hBe.out _ hB5⟩
      · clear hlt
        go_wp2_with fail
        refine (wakes_any _).mono ?_
        rintro e w5 ⟨rfl, hB5⟩
        go_wp2_with fail
        go_ret
        exact ⟨rfl, hBe.out _ hB5⟩
set_option maxHeartbeats 2000000 in
set_option maxRecDepth 100000 in
theorem plays_bad (window : Int) (A : Option Addr) (n c : Nat) (w : World) (hbad : window < 1 ∨ 1125899906842624 < window) :
    Calls Try.prog 3 #[.int .i64 window, .slice A n c] w fun e w' => e = .returned (.bool true) ∧ Below w.heap.size w w' := by
  have HC1 := Aside0.mk (fun w => mnew_bad window w hbad)
  have HC2 := Aside0.mk (fun w => rmnew_bad window w hbad)
  clear hbad
  go_enter Try.func3, Try.ntmps3
  go_wp2_with fail
  refine (HC1.out _).mono ?_
  rintro e w1 ⟨rfl, hw⟩
  obtain rfl := hw.symm
  go_wp2_with fail
  refine (HC2.out _).mono ?_
  rintro e w1 ⟨rfl, hw⟩
  obtain rfl := hw.symm
  go_wp2_with fail
  go_loopw [9] (fun v wr => v = .int .i64 0 ∧ wr = w) (fun v _ => 0)
  case atStart => exact ⟨rfl, rfl⟩
  case round =>
    obtain ⟨rfl, rfl⟩ := hrel
    by_cases h : 0 < n
    all_goals
      go_wp2_with fail
      refine (wakes_any _).mono ?_
      rintro e w5 ⟨rfl, hB5⟩
      go_wp2_with fail
      go_ret
      exact ⟨rfl, hB5⟩
theorem plays_true (window : Int) (A : Option Addr) (n c : Nat) (w : World) (hwi : I64 window) (h1 : n ≤ c) (h2 : c ≤ maxLen) (hl : ∀ i, i < n → ∃ (ad : Addr) (c0 : Int) (c1 : Int) (c2 : Int), A = some ad ∧ w.cell? (ad.add (i * 3 + 0)) = some (.int .i64 c0) ∧ I64 c0 ∧ w.cell? (ad.add (i * 3 + 1)) = some (.int .i64 c1) ∧ I64 c1 ∧ w.cell? (ad.add (i * 3 + 2)) = some (.int .i64 c2) ∧ I64 c2) :
    Calls Try.prog 3 #[.int .i64 window, .slice A n c] w fun e w' => e = .returned (.bool true) ∧ Below w.heap.size w w' := by
  by_cases h : 1 ≤ window ∧ window ≤ 1125899906842624
  · exact plays_good window A n c w h.1 h.2 (by unfold maxLen at h2; omega) (rstepsAt_of hl)
  · exact plays_bad window A n c w (by omega)
end Go.Proofs.Ytpmbacgdbnfeeaa.B
