/-
  A line's step: the program's way. Walk.
-/
import Derived.Test.YtkjjjgplidompaaDoorKg
namespace Go.Proofs.YtkjjjgplidompaaDoor.B
open Go.RowKit Go.Proofs.YtkjjjgplidompaaDoorW.PrintWords Go.Proofs.YtkjjjgplidompaaDoorW.PrintLast Go.Proofs.YtkjjjgplidompaaDoorW.PrintMore
set_option linter.unusedVariables false
set_option linter.unusedSimpArgs false
/-- A step's cells. -/
def stC (k a p q u v : Int) (d : List UInt8) : Array Value := #[.int .i64 k, .int .i64 a, .int .i64 p, .int .i64 q, .int .i64 u, .int .i64 v, .string (tx d)]
def stV (s : LStep) : Value := .agg (stC s.kind s.at_ s.id s.stream s.cls s.size s.data)
def stZ : LStep := ⟨0, 0, 0, 0, 0, 0, []⟩
/-- What Parse gives. -/
def parV (l : List UInt8) : Value := match parseL l with | some s => .tuple #[stV s, .int .i64 0] | none => .tuple #[stV stZ, .int .i64 320]
theorem parV_none {l : List UInt8} (h : parseL l = none) : parV l = .tuple #[stV stZ, .int .i64 320] := by unfold parV; rw [h]
theorem parV_some {l : List UInt8} {s : LStep} (h : parseL l = some s) : parV l = .tuple #[stV s, .int .i64 0] := by unfold parV; rw [h]
def ParPost (l : List UInt8) (w : World) (e : Ending) (w' : World) : Prop := e = .returned (parV l) ∧ Below w.heap.size w w'
/-- A number, and whether it is one. -/
def numN (l : List UInt8) (m : Nat) : Nat := (numberL l m).getD 0
def numB (l : List UInt8) (m : Nat) : Bool := (numberL l m).isSome
theorem numV_is (l : List UInt8) (m : Nat) : numV l m = .tuple #[.int .i64 (numN l m : Int), .bool (numB l m)] := by
  unfold numV numN numB
  cases numberL l m <;> rfl
theorem numB_true {l : List UInt8} {m : Nat} (h : numB l m = true) : numberL l m = some (numN l m) := by
  unfold numB at h
  unfold numN
  obtain ⟨n, hn⟩ := Option.isSome_iff_exists.1 h
  rw [hn]; rfl
theorem numB_false {l : List UInt8} {m : Nat} (h : numB l m = false) : numberL l m = none := by
  unfold numB at h
  cases hn : numberL l m with
  | none => rfl
  | some n => rw [hn] at h; cases h
theorem parse_load (g : Nat) (tm : Array Value) (w : World) (cs : Array Value) (x : Value) (hc : cs.size = 7) (t2 : tm[2]?.getD undef = .pointer (some ⟨g, 0, none⟩)) (t3 : tm[3]?.getD undef = x) (hb : w.heap[g]? = some (.cells cs 26 (0, 0))) :
    (results Tryd.f8 tm).run Tryd.prog w = .ok (.tuple #[.agg cs, x]) w := by
  obtain ⟨a0, a1, a2, a3, a4, a5, a6, rfl⟩ : ∃ a0 a1 a2 a3 a4 a5 a6, cs = #[a0, a1, a2, a3, a4, a5, a6] := by
    obtain ⟨l⟩ := cs
    match l, hc with
    | [a0, a1, a2, a3, a4, a5, a6], _ => exact ⟨a0, a1, a2, a3, a4, a5, a6, rfl⟩
  have c0 := blk_cell hb 0
  have c1 := blk_cell hb 1
  have c2 := blk_cell hb 2
  have c3 := blk_cell hb 3
  have c4 := blk_cell hb 4
  have c5 := blk_cell hb 5
  have c6 := blk_cell hb 6
  simp only [List.getElem?_toArray, List.getElem?_cons_zero, List.getElem?_cons_succ] at c0 c1 c2 c3 c4 c5 c6
  simp [results, Tryd.results8, go_sem, t2, t3, c0, c1, c2, c3, c4, c5, c6]
theorem stset {w : World} {g : Nat} {u0 u1 u2 u3 u4 u5 u6 : Value} (h : w.heap[g]? = some (.cells #[u0, u1, u2, u3, u4, u5, u6] 26 (0, 0))) (y0 y1 y2 y3 y4 y5 y6 : Value) : (((((((w.setCell ⟨g, 0, none⟩ y0).setCell ⟨g, 1, none⟩ y1).setCell ⟨g, 2, none⟩ y2).setCell ⟨g, 3, none⟩ y3).setCell ⟨g, 4, none⟩ y4).setCell ⟨g, 5, none⟩ y5).setCell ⟨g, 6, none⟩ y6).heap[g]? = some (.cells #[y0, y1, y2, y3, y4, y5, y6] 26 (0, 0)) := by
  have e_ := blk_set h 0 y0
  simp only [List.setIfInBounds_toArray, List.set_cons_zero, List.set_cons_succ] at e_
  have e_ := blk_set e_ 1 y1
  simp only [List.setIfInBounds_toArray, List.set_cons_zero, List.set_cons_succ] at e_
  have e_ := blk_set e_ 2 y2
  simp only [List.setIfInBounds_toArray, List.set_cons_zero, List.set_cons_succ] at e_
  have e_ := blk_set e_ 3 y3
  simp only [List.setIfInBounds_toArray, List.set_cons_zero, List.set_cons_succ] at e_
  have e_ := blk_set e_ 4 y4
  simp only [List.setIfInBounds_toArray, List.set_cons_zero, List.set_cons_succ] at e_
  have e_ := blk_set e_ 5 y5
  simp only [List.setIfInBounds_toArray, List.set_cons_zero, List.set_cons_succ] at e_
  have e_ := blk_set e_ 6 y6
  simp only [List.setIfInBounds_toArray, List.set_cons_zero, List.set_cons_succ] at e_
  exact e_
theorem stbelow {B : Nat} {a w : World} {g : Nat} (h : Below B a w) (hg : B ≤ g) (y0 y1 y2 y3 y4 y5 y6 : Value) : Below B a (((((((w.setCell ⟨g, 0, none⟩ y0).setCell ⟨g, 1, none⟩ y1).setCell ⟨g, 2, none⟩ y2).setCell ⟨g, 3, none⟩ y3).setCell ⟨g, 4, none⟩ y4).setCell ⟨g, 5, none⟩ y5).setCell ⟨g, 6, none⟩ y6) := (((((((h.setCell (p := ⟨g, 0, none⟩) hg y0).setCell (p := ⟨g, 1, none⟩) hg y1).setCell (p := ⟨g, 2, none⟩) hg y2).setCell (p := ⟨g, 3, none⟩) hg y3).setCell (p := ⟨g, 4, none⟩) hg y4).setCell (p := ⟨g, 5, none⟩) hg y5).setCell (p := ⟨g, 6, none⟩) hg y6)
theorem stcells {w : World} {g : Nat} {u0 u1 u2 u3 u4 u5 u6 : Value} (h : w.heap[g]? = some (.cells #[u0, u1, u2, u3, u4, u5, u6] 26 (0, 0))) : (w.cell? ⟨g, 0, none⟩ = some u0 ∧ w.cell? ⟨g, 1, none⟩ = some u1 ∧ w.cell? ⟨g, 2, none⟩ = some u2 ∧ w.cell? ⟨g, 3, none⟩ = some u3 ∧ w.cell? ⟨g, 4, none⟩ = some u4 ∧ w.cell? ⟨g, 5, none⟩ = some u5 ∧ w.cell? ⟨g, 6, none⟩ = some u6) ∧ (w.frozen? ⟨g, 0, none⟩ = false ∧ w.frozen? ⟨g, 1, none⟩ = false ∧ w.frozen? ⟨g, 2, none⟩ = false ∧ w.frozen? ⟨g, 3, none⟩ = false ∧ w.frozen? ⟨g, 4, none⟩ = false ∧ w.frozen? ⟨g, 5, none⟩ = false ∧ w.frozen? ⟨g, 6, none⟩ = false) := by
  have c0 := blk_cell h 0
  have c1 := blk_cell h 1
  have c2 := blk_cell h 2
  have c3 := blk_cell h 3
  have c4 := blk_cell h 4
  have c5 := blk_cell h 5
  have c6 := blk_cell h 6
  simp only [List.getElem?_toArray, List.getElem?_cons_zero, List.getElem?_cons_succ] at c0 c1 c2 c3 c4 c5 c6
  exact ⟨⟨c0, c1, c2, c3, c4, c5, c6⟩, blk_frozen h 0, blk_frozen h 1, blk_frozen h 2, blk_frozen h 3, blk_frozen h 4, blk_frozen h 5, blk_frozen h 6⟩
/-- The words of a line of which the first is k and the second a. -/
theorem parse_few {l : List UInt8} (h : (wordsL l).length < 2) : parseL l = none := by
  unfold parseL
  generalize wordsL l = W at h
  match W, h with
  | [], _ => rfl
  | [_], _ => rfl
theorem words_len : ∀ (l : List UInt8), ∀ x ∈ wordsL l, x.length ≤ l.length := by
  intro l
  induction l with
  | nil => intro x hx; simp [wordsL] at hx; subst hx; simp
  | cons c r ih =>
    intro x hx
    unfold wordsL at hx
    split at hx
    · rcases List.mem_cons.1 hx with rfl | h
      · simp
      · have := ih x h; simp; omega
    · cases hw : wordsL r with
      | nil => exact absurd hw (wordsL_ne r)
      | cons y t =>
        rw [hw] at hx ih
        rcases List.mem_cons.1 hx with rfl | h
        · have := ih y (by simp); simp; omega
        · have := ih x (by simp [h]); simp; omega
theorem par_err {l a : List UInt8} {k : List UInt8} {r : List (List UInt8)} (hW : k :: a :: r = wordsL l) (hb : false = numB a 18) : parV l = .tuple #[stV stZ, .int .i64 320] := by
  refine parV_none ?_
  unfold parseL
  rw [← hW]
  show (numberL a 18).bind _ = none
  rw [numB_false hb.symm]; rfl
theorem par_no {l a : List UInt8} {k : List UInt8} {r : List (List UInt8)} (hW : k :: a :: r = wordsL l) (h : ∀ t, stepW k t r = none) : parV l = .tuple #[stV stZ, .int .i64 320] := by
  refine parV_none ?_
  unfold parseL
  rw [← hW]
  show (numberL a 18).bind _ = none
  cases numberL a 18 with
  | none => rfl
  | some t => exact h t
theorem par_st {l a : List UInt8} {k : List UInt8} {r : List (List UInt8)} {st : LStep} (hW : k :: a :: r = wordsL l) (hb : true = numB a 18) (h : stepW k (numN a 18) r = some st) : parV l = .tuple #[stV st, .int .i64 0] := by
  refine parV_some ?_
  unfold parseL
  rw [← hW]
  show (numberL a 18).bind _ = _
  rw [numB_true hb.symm]
  exact h
theorem step_default {k : List UInt8} {r : List (List UInt8)} (h1 : ¬ (k = [116] ∧ r.length = 0)) (h2 : ¬ (k = [102] ∧ r.length = 1)) (h3 : ¬ (k = [101] ∧ r.length = 4)) (t : Nat) : stepW k t r = none := by
  unfold stepW
  split
  · rename_i hk
    match r, h1 with
    | [], h1 => exact absurd ⟨hk, rfl⟩ h1
    | _ :: _, _ => rfl
  · split
    · rename_i hk
      match r, h2 with
      | [], _ => rfl
      | [d], h2 => exact absurd ⟨hk, rfl⟩ h2
      | _ :: _ :: _, _ => rfl
    · split
      · rename_i hk
        match r, h3 with
        | [], _ => rfl
        | [_], _ => rfl
        | [_, _], _ => rfl
        | [_, _, _], _ => rfl
        | [_, _, _, _], h3 => exact absurd ⟨hk, rfl⟩ h3
        | _ :: _ :: _ :: _ :: _ :: _, _ => rfl
      · rfl
def nvA (r : List (List UInt8)) (i : Nat) : Nat := numN (r.getD i []) 9
def nbA (r : List (List UInt8)) (i : Nat) : Bool := numB (r.getD i []) 9
def okA (b : Bool) (r : List (List UInt8)) : Nat → Bool
  | 0 => b
  | j + 1 => okA b r j && nbA r j
def eC (t : Nat) (r : List (List UInt8)) (j : Nat) : Array Value := stC 1 (t : Int) (if 0 < j then (nvA r 0 : Nat) else 0 : Int) (if 1 < j then (nvA r 1 : Nat) else 0 : Int) (if 2 < j then (nvA r 2 : Nat) else 0 : Int) (if 3 < j then (nvA r 3 : Nat) else 0 : Int) []
theorem eC_size (t : Nat) (r : List (List UInt8)) (j : Nat) : (eC t r j).size = 7 := rfl
theorem eC_at (t : Nat) (r : List (List UInt8)) (j : Nat) (h : j < 4) : (eC t r j)[2 + j]? = some (.int .i64 0) := by
  have h4 : j = 0 ∨ j = 1 ∨ j = 2 ∨ j = 3 := by omega
  rcases h4 with rfl | rfl | rfl | rfl <;> simp [eC, stC]
theorem eC_set (t : Nat) (r : List (List UInt8)) (j : Nat) (h : j < 4) : (eC t r j).setIfInBounds (2 + j) (.int .i64 (nvA r j : Int)) = eC t r (j + 1) := by
  have h4 : j = 0 ∨ j = 1 ∨ j = 2 ∨ j = 3 := by omega
  rcases h4 with rfl | rfl | rfl | rfl <;> simp [eC, stC]
theorem step_four {r : List (List UInt8)} (hr : r.length = 4) (t : Nat) : stepW [101] t r = if okA true r 4 = true then some ⟨1, t, (nvA r 0 : Nat), (nvA r 1 : Nat), (nvA r 2 : Nat), (nvA r 3 : Nat), []⟩ else none := by
  match r, hr with
  | [p, q, u, v], _ =>
    show (match numberL p 9, numberL q 9, numberL u 9, numberL v 9 with
      | some a, some b, some c, some d => some (LStep.mk 1 t a b c d [])
      | _, _, _, _ => none) = _
    simp only [okA, nbA, nvA, numB, numN, List.getD_cons_zero, List.getD_cons_succ, Bool.true_and]
    cases numberL p 9 <;> cases numberL q 9 <;> cases numberL u 9 <;> cases numberL v 9 <;> simp
theorem okA_false (b : Bool) (r : List (List UInt8)) (h : okA b r 4 = true) : b = true ∧ okA true r 4 = true := by
  cases b with
  | true => exact ⟨rfl, h⟩
  | false => simp [okA] at h
def ERel (w : World) (g2 g7 gp rg ro t : Nat) (b : Bool) (k a : List UInt8) (r : List (List UInt8)) (v6 v85 : Value) (wr : World) : Prop := ∃ j : Nat, v85 = .int .i64 j ∧ j ≤ 4 ∧ v6 = .bool (okA b r j) ∧ Aside0 (wr.heap[g7]? = some (.cells (eC t r j) 26 (0, 0))) ∧ Aside0 (wr.heap[g2]? = some (.cells (stC 0 0 0 0 0 0 []) 26 (0, 0))) ∧
  Aside0 (∀ j, j < 4 → wr.cell? ⟨gp, j, none⟩ = some (.pointer (some ⟨g7, 2 + j, none⟩))) ∧ Aside0 (∀ (j : Nat) (u : Value), (strsV (k :: a :: r))[j]? = some u → wr.cell? ⟨rg, ro + j, none⟩ = some u) ∧ Aside0 (Below w.heap.size w wr)
theorem stkeep {w : World} {g g2 : Nat} {o : Obj} (h : w.heap[g2]? = some o) (hne : g2 ≠ g) (i : Nat) (u : Value) : (w.setCell ⟨g, i, none⟩ u).heap[g2]? = some o := (Below.heap_setCell w ⟨g, i, none⟩ u g2 hne).trans h
set_option maxHeartbeats 8000000 in
set_option maxRecDepth 100000 in
theorem parse_any (s : ByteArray) (w : World) (hs : s.size ≤ 1000000) : Calls Tryd.prog 8 #[.string s] w (ParPost s.data.toList w) := by
  have hl := len_of s
  go_enter Tryd.func8, Tryd.ntmps8
  go_wp2_with fail
  refine (words_any s _ hs).mono ?_
  rintro e w1 ⟨v, rfl, hR, hB1⟩
  obtain ⟨g2, hg2⟩ : ∃ g, g = w.heap.size := ⟨_, rfl⟩
  have k2 : w1.heap[g2]? = some (.cells (stC 0 0 0 0 0 0 []) 26 (0, 0)) := by
    rw [hg2]
    exact (hB1.block _ (by simp)).trans (blk_new w _)
  have HB := Aside0.mk ((((Below.refl _ w).alloc (Nat.le_refl _) (.cells (stC 0 0 0 0 0 0 []) 26))).trans (hB1.mono (by simp)))
  rw [← hg2]
  have HG := Aside0.mk hg2
  have hw := words_length s.data.toList
  obtain ⟨W, hW⟩ : ∃ W, W = wordsL s.data.toList := ⟨_, rfl⟩
  rw [← hW] at hR hw
  obtain ⟨n, hn⟩ : ∃ n, n = W.length := ⟨_, rfl⟩
  rw [← hn] at hR hw
  obtain ⟨A, c, rfl, hnc, hcm⟩ := hR.form
  have HR := Aside0.mk hR
  have HW := Aside0.mk hW
  have HN := Aside0.mk hn
  clear hR hW hn hg2 hB1
  by_cases h2 : n < 2
  · have q1 : decide ((n : Int) < 2) = true := decide_eq_true (by omega)
    have HP := Aside0.mk (parV_none (parse_few (l := s.data.toList) (by rw [← HW.out, ← HN.out]; exact h2)))
    obtain ⟨⟨c0, c1, c2, c3, c4, c5, c6⟩, f0, f1, f2, f3, f4, f5, f6⟩ := stcells k2
    have K2 := Aside0.mk k2
    clear k2 h2
    go_wp2_with fail
    refine bodyPost_ret (parse_load g2 _ _ _ _ rfl rfl rfl (stset K2.out _ _ _ _ _ _ _)) rfl ?_
    exact ⟨by rw [HP.out]; rfl, stbelow HB.out (by rw [HG.out]; exact Nat.le_refl _) _ _ _ _ _ _ _⟩
  · have q1 : decide ((n : Int) < 2) = false := decide_eq_false (by omega)
    obtain ⟨k, a, r, hkar⟩ : ∃ k a r, W = k :: a :: r := by
      have := HN.out
      match W, this with
      | [], h => simp at h; omega
      | [_], h => simp at h; omega
      | k :: a :: r, _ => exact ⟨k, a, r, rfl⟩
    subst hkar
    have hnr : n = r.length + 2 := by rw [HN.out]; simp
    have HNR := Aside0.mk hnr
    have hn2 : 2 ≤ n := by omega
    obtain ⟨rg, ro, c', heq, hrg, _, _, hcell⟩ := HR.out.some_ (by omega)
    clear hnr
    injection heq with heq1 _ heq2
    subst heq1 heq2
    have r0 : w1.cell? ⟨rg, ro, none⟩ = some (.string (tx k)) := hcell 0 _ rfl
    have r1 : w1.cell? ⟨rg, ro + 1, none⟩ = some (.string (tx a)) := hcell 1 _ rfl
    have HCE := Aside0.mk hcell
    have K2 := Aside0.mk k2
    have hcl : ∀ x ∈ wordsL s.data.toList, x.length ≤ s.size := fun x hx => by have := words_len s.data.toList x hx; omega
    rw [← HW.out] at hcl
    have ha : a.length ≤ 1000000 := by have := hcl a (by simp); omega
    have HCL := Aside0.mk hcl
    clear hcell k2 h2 hcl hcm hw
    go_wp2_with fail
    refine (number_any (tx a) 18 w1 (by omega) (by rw [tx_size]; exact ha)).mono ?_
    rintro e w3 ⟨rfl, hb3⟩
    rw [tx_data, numV_is]
    obtain ⟨t, ht⟩ : ∃ t, t = numN a 18 := ⟨_, rfl⟩
    obtain ⟨b, hb⟩ : ∃ b, b = numB a 18 := ⟨_, rfl⟩
    rw [← ht, ← hb]
    have hrl := World.block_lt_of_cell? w1 _ r0
    have HT := Aside0.mk (And.intro ht hb)
    clear ht hb r0 r1 hrg
    go_upto_region 7 with fail
    obtain ⟨g7, hg7⟩ : ∃ g, g = w3.heap.size := ⟨_, rfl⟩
    obtain ⟨W4, hW4⟩ : ∃ W4, W4 = w3.alloc (.cells #[.int .i64 0, .int .i64 (t : Int), .int .i64 0, .int .i64 0, .int .i64 0, .int .i64 0, .string { data := #[] }] 26) := ⟨_, rfl⟩
    have K7 : W4.heap[g7]? = some (.cells (stC 0 t 0 0 0 0 []) 26 (0, 0)) := by rw [hW4, hg7]; exact blk_new w3 _
    have hb4 : Below w1.heap.size w1 W4 := by rw [hW4]; exact hb3.alloc hb3.size _
    have hB4 : Below w.heap.size w W4 := by rw [hW4]; exact HB.out.trans ((hb3.mono HB.out.size).alloc (Nat.le_trans HB.out.size hb3.size) _)
    have K24 := (hb4.block g2 (blk_ltI K2.out)).trans K2.out
    have hcell4 : ∀ (j : Nat) (u : Value), (strsV (k :: a :: r))[j]? = some u → W4.cell? ⟨rg, ro + j, none⟩ = some u := fun j u h => (hb4.cell (p := ⟨rg, ro + j, none⟩) hrl).trans (HCE.out j u h)
    have hne : g2 ≠ g7 := by have := blk_ltI K2.out; have := hb3.size; omega
    have HRG := Aside0.mk (show rg ≠ g7 by have := hb3.size; have h_ : rg < w1.heap.size := hrl; omega)
    rw [← hW4, ← hg7]
    have H7 := Aside0.mk K7
    have H2 := Aside0.mk K24
    have HC := Aside0.mk hcell4
    have HB4 := Aside0.mk hB4
    have HG7 := Aside0.mk (show w.heap.size ≤ g7 by rw [hg7]; exact Nat.le_trans HB.out.size hb3.size)
    have r0 : W4.cell? ⟨rg, ro, none⟩ = some (.string (tx k)) := hcell4 0 _ rfl
    obtain ⟨⟨c0, c1, c2, c3, c4, c5, c6⟩, f0, f1, f2, f3, f4, f5, f6⟩ := stcells K24
    obtain ⟨⟨d0, d1, d2, d3, d4, d5, d6⟩, e0, e1, e2, e3, e4, e5, e6⟩ := stcells K7
    have l2 := blk_ltI K24
    have l7 := blk_ltI K7
    clear hW4 hg7 hcell4 hB4 hb4 K24 K7 hb3 hrl K2 HB HCE HR
    by_cases h3 : k = [116] ∧ r.length = 0
    · have q2 : (k == [116]) = true := by rw [h3.1]; rfl
      have q3 : ((n : Int) == 2) = true := by rw [HNR.out, h3.2]; rfl
      have HS : Aside0 (∀ t, stepW k t r = some ⟨2, t, 0, 0, 0, 0, []⟩) := ⟨fun t => by
        obtain ⟨h3, h4⟩ := h3
        subst h3
        rw [List.eq_nil_of_length_eq_zero h4]; rfl⟩
      clear h3
      cases b
      · have HP := Aside0.mk (par_err HW.out HT.out.2)
        go_wp2_with fail
        refine bodyPost_ret (parse_load g2 _ _ _ _ rfl rfl rfl (stset (stkeep H2.out hne 0 _) _ _ _ _ _ _ _)) rfl ?_
        exact ⟨by rw [HP.out]; rfl, stbelow (HB4.out.setCell (p := ⟨g7, 0, none⟩) HG7.out _) (by rw [HG.out]; exact Nat.le_refl _) _ _ _ _ _ _ _⟩
      · have HP := Aside0.mk (par_st HW.out HT.out.2 (HS.out _))
        rw [← HT.out.1] at HP
        go_wp2_with fail
        refine bodyPost_ret (parse_load g2 _ _ _ _ rfl rfl rfl (stset (stkeep H2.out hne 0 _) _ _ _ _ _ _ _)) rfl ?_
        exact ⟨by rw [HP.out]; rfl, stbelow (HB4.out.setCell (p := ⟨g7, 0, none⟩) HG7.out _) (by rw [HG.out]; exact Nat.le_refl _) _ _ _ _ _ _ _⟩
    · by_cases h4 : k = [102] ∧ r.length = 1
      · have q2 : (k == [116]) = false := by rw [h4.1]; rfl
        have q3 : (k == [102]) = true := by rw [h4.1]; rfl
        have q4 : ((n : Int) == 3) = true := by rw [HNR.out, h4.2]; rfl
        have hn3 : n = 3 := by rw [HNR.out, h4.2]
        obtain ⟨d, hd⟩ : ∃ d, r = [d] := by
          match r, h4.2 with
          | [d], _ => exact ⟨d, rfl⟩
        have hk := h4.1
        subst hd
        clear h3 h4
        have r2 : W4.cell? ⟨rg, ro + 2, none⟩ = some (.string (tx d)) := HC.out 2 _ rfl
        have hdl : d.length ≤ 1000000 := by have := HCL.out d (by simp); omega
        have hn3' : (2 : Int) < (n : Int) := by omega
        have HK := Aside0.mk hk
        have HN3 := Aside0.mk hn3
        clear hk hn3
        go_wp2_with fail
        refine (bytes_any (tx d) _ (by rw [tx_size]; exact hdl)).mono ?_
        rintro e w5 ⟨rfl, hb5⟩
        rw [tx_data]
        have e7 := blk_set H7.out 0 (.int .i64 3)
        simp only [stC, List.setIfInBounds_toArray, List.set_cons_zero, List.set_cons_succ] at e7
        have K7 := (hb5.block g7 (blk_ltI e7)).trans e7
        have e2 := stkeep H2.out hne 0 (.int .i64 3)
        have K2 := (hb5.block g2 (blk_ltI e2)).trans e2
        have HB5 := Aside0.mk ((HB4.out.setCell (p := ⟨g7, 0, none⟩) HG7.out (.int .i64 3)).trans (hb5.mono (Nat.le_trans HB4.out.size (by simp [World.setCell]))))
        clear c0 c1 c2 c3 c4 c5 c6 f0 f1 f2 f3 f4 f5 f6 d0 d1 d2 d3 d4 d5 d6 e0 e1 e2 e3 e4 e5 e6 e7 hb5 l2 l7 r0 r2
        obtain ⟨⟨c0, c1, c2, c3, c4, c5, c6⟩, f0, f1, f2, f3, f4, f5, f6⟩ := stcells K2
        obtain ⟨⟨d0, d1, d2, d3, d4, d5, d6⟩, e0, e1, e2, e3, e4, e5, e6⟩ := stcells K7
        have l2 := blk_ltI K2
        have l7 := blk_ltI K7
        have HK2 := Aside0.mk K2
        clear K2 K7 q2 q3 q4 q1
        cases hu : unhexL d with
        | none =>
          have HP := Aside0.mk (par_no HW.out (fun t => show stepW k t [d] = none by rw [HK.out]; show (unhexL d).map _ = none; rw [hu]; rfl))
          rw [bytesV_none hu]
          clear hu
          cases b
          all_goals
            go_wp2_with fail
            refine bodyPost_ret (parse_load g2 _ _ _ _ rfl rfl rfl (stset (stkeep HK2.out hne 6 _) _ _ _ _ _ _ _)) rfl ?_
            exact ⟨by rw [HP.out]; rfl, stbelow (HB5.out.setCell (p := ⟨g7, 6, none⟩) HG7.out _) (by rw [HG.out]; exact Nat.le_refl _) _ _ _ _ _ _ _⟩
        | some bd =>
          rw [bytesV_some hu]
          cases b
          · have HP := Aside0.mk (par_err HW.out HT.out.2)
            clear hu
            go_wp2_with fail
            refine bodyPost_ret (parse_load g2 _ _ _ _ rfl rfl rfl (stset (stkeep HK2.out hne 6 _) _ _ _ _ _ _ _)) rfl ?_
            exact ⟨by rw [HP.out]; rfl, stbelow (HB5.out.setCell (p := ⟨g7, 6, none⟩) HG7.out _) (by rw [HG.out]; exact Nat.le_refl _) _ _ _ _ _ _ _⟩
          · have HP := Aside0.mk (par_st HW.out HT.out.2 (show stepW k (numN a 18) [d] = some ⟨3, (numN a 18 : Nat), 0, 0, 0, 0, bd⟩ by rw [HK.out]; show (unhexL d).map _ = _; rw [hu]; rfl))
            rw [← HT.out.1] at HP
            clear hu
            go_wp2_with fail
            refine bodyPost_ret (parse_load g2 _ _ _ _ rfl rfl rfl (stset (stkeep HK2.out hne 6 _) _ _ _ _ _ _ _)) rfl ?_
            exact ⟨by rw [HP.out]; rfl, stbelow (HB5.out.setCell (p := ⟨g7, 6, none⟩) HG7.out _) (by rw [HG.out]; exact Nat.le_refl _) _ _ _ _ _ _ _⟩
      · by_cases h5 : k = [101] ∧ r.length = 4
        · have q2 : (k == [116]) = false := by rw [h5.1]; rfl
          have q3 : (k == [102]) = false := by rw [h5.1]; rfl
          have q4 : (k == [101]) = true := by rw [h5.1]; rfl
          have q5 : ((n : Int) == 6) = true := by rw [HNR.out, h5.2]; rfl
          have HK := Aside0.mk h5.1
          have HR4 := Aside0.mk h5.2
          have hn6 : (6 : Int) ≤ (n : Int) := by have := HNR.out; have := h5.2; omega
          have hrg7 : rg ≠ g7 := HRG.out
          clear h3 h4 h5
          go_wp2_with fail
          obtain ⟨gp, hgp⟩ : ∃ g, g = W4.heap.size := ⟨_, rfl⟩
          have e7 := blk_set H7.out 0 (.int .i64 1)
          simp only [stC, List.setIfInBounds_toArray, List.set_cons_zero, List.set_cons_succ] at e7
          have e2 := stkeep H2.out hne 0 (.int .i64 1)
          have hsz : (W4.setCell ⟨g7, 0, none⟩ (.int .i64 1)).heap.size = W4.heap.size := by simp [World.setCell]
          have hpn := blk_new (W4.setCell ⟨g7, 0, none⟩ (.int .i64 1)) (.cells #[.pointer (some ⟨g7, 2, none⟩), .pointer (some ⟨g7, 3, none⟩), .pointer (some ⟨g7, 4, none⟩), .pointer (some ⟨g7, 5, none⟩)] 53)
          rw [hsz, ← hgp] at hpn
          have HGP := Aside0.mk (show gp ≠ g7 by omega)
          rw [← hgp]
          clear hgp
          go_loopw [6, 10, 11, 12, 13, 85] (fun v6 _ _ _ _ v85 wr => ERel w g2 g7 gp rg ro t b k a r v6 v85 wr) (fun _ _ _ _ _ v _ => 4 - (intOf v).toNat)
          case atStart =>
            refine ⟨0, rfl, by omega, rfl, ⟨(Below.heap_alloc _ _ _ (blk_ltI e7)).trans e7⟩, ⟨(Below.heap_alloc _ _ _ (blk_ltI e2)).trans e2⟩, ⟨fun j hj => ?_⟩, ⟨fun j u hu => ?_⟩, ⟨(HB4.out.setCell (p := ⟨g7, 0, none⟩) HG7.out _).alloc (Nat.le_trans HB4.out.size (Nat.le_of_eq hsz.symm)) _⟩⟩
            · rw [blk_cell hpn j]
              have h4 : j = 0 ∨ j = 1 ∨ j = 2 ∨ j = 3 := by omega
              rcases h4 with rfl | rfl | rfl | rfl <;> rfl
            · have h1 := HC.out j u hu
              have h2 : (W4.setCell ⟨g7, 0, none⟩ (.int .i64 1)).cell? ⟨rg, ro + j, none⟩ = some u := by
                rw [World.cell?_setCell_other W4 ⟨g7, 0, none⟩ ⟨rg, ro + j, none⟩ _ (by intro h; injection h with h _; exact hrg7 h.symm)]
                exact h1
              rw [World.cell?_of_block (Below.heap_alloc _ _ _ (World.block_lt_of_cell? _ _ h2))]
              exact h2
          case round =>
            obtain ⟨j, rfl, hj, rfl, hE7, hE2, hP, hC2, hBr⟩ := hrel
            clear c0 c1 c2 c3 c4 c5 c6 f0 f1 f2 f3 f4 f5 f6 d0 d1 d2 d3 d4 d5 d6 e0 e1 e2 e3 e4 e5 e6 e7 l2 l7 r0 hpn hsz H7 H2 HC HB4
            by_cases hlt : j < 4
            · have p1 : decide ((j : Int) < 4) = true := decide_eq_true (by omega)
              obtain ⟨x, hx⟩ : ∃ x, x = r.getD j [] := ⟨_, rfl⟩
              have hxm : x ∈ k :: a :: r := by
                rw [hx, List.getD_eq_getElem?_getD, List.getElem?_eq_getElem (by rw [HR4.out]; exact hlt)]
                simp
              have hxl : x.length ≤ 1000000 := by have := HCL.out x hxm; omega
              have rr : wr.cell? ⟨rg, ro + (2 + j), none⟩ = some (.string (tx x)) := hC2.out (2 + j) _ (by
                unfold strsV
                rw [List.getElem?_map, show 2 + j = j + 1 + 1 by omega, List.getElem?_cons_succ, List.getElem?_cons_succ, List.getElem?_eq_getElem (by rw [HR4.out]; exact hlt), hx, List.getD_eq_getElem?_getD, List.getElem?_eq_getElem (by rw [HR4.out]; exact hlt)]
                rfl)
              have pp := hP.out j hlt
              have HX := Aside0.mk (And.intro hx hxm)
              clear hx hxm
              obtain ⟨o, ho⟩ : ∃ o, o = okA b r j := ⟨_, rfl⟩
              rw [← ho]
              have HO := Aside0.mk ho
              clear ho
              go_wp2_with fail
              refine (number_any (tx x) 9 wr (by omega) (by rw [tx_size]; exact hxl)).mono ?_
              rintro e w6 ⟨rfl, hb6⟩
              rw [tx_data, numV_is]
              obtain ⟨m, hm⟩ : ∃ m, m = numN x 9 := ⟨_, rfl⟩
              obtain ⟨y, hy⟩ : ∃ y, y = numB x 9 := ⟨_, rfl⟩
              rw [← hm, ← hy]
              have HM := Aside0.mk (And.intro hm hy)
              clear hm hy rr pp
              have K7 := (hb6.block g7 (blk_ltI hE7.out)).trans hE7.out
              have K2 := (hb6.block g2 (blk_ltI hE2.out)).trans hE2.out
              have dj := blk_cell K7 (2 + j)
              rw [eC_at t r j hlt] at dj
              have fj := blk_frozen K7 (2 + j)
              have l7 := blk_ltI K7
              have H7 := Aside0.mk K7
              have H2 := Aside0.mk K2
              have HB6 := Aside0.mk (hBr.out.trans (hb6.mono hBr.out.size))
              have HP6 : Aside0 (∀ j, j < 4 → w6.cell? ⟨gp, j, none⟩ = some (.pointer (some ⟨g7, 2 + j, none⟩))) := ⟨fun j hj => (hb6.cell (p := ⟨gp, j, none⟩) (World.block_lt_of_cell? _ _ (hP.out j hj))).trans (hP.out j hj)⟩
              have HC6 : Aside0 (∀ (j : Nat) (u : Value), (strsV (k :: a :: r))[j]? = some u → w6.cell? ⟨rg, ro + j, none⟩ = some u) := ⟨fun j u hu => (hb6.cell (p := ⟨rg, ro + j, none⟩) (World.block_lt_of_cell? _ _ (hC2.out j u hu))).trans (hC2.out j u hu)⟩
              clear K7 K2 hb6 hE7 hE2 hP hC2 hBr
              have HOK : Aside0 (okA b r (j + 1) = (o && y)) := ⟨by
                show (okA b r j && nbA r j) = _
                rw [← HO.out]
                unfold nbA
                rw [← HX.out.1, ← HM.out.2]⟩
              have HZ : Aside0 (ERel w g2 g7 gp rg ro t b k a r (.bool (o && y)) (.int .i64 ((j + 1 : Nat) : Int)) (w6.setCell ⟨g7, 2 + j, none⟩ (.int .i64 (m : Int)))) := ⟨by
                refine ⟨j + 1, rfl, by omega, by rw [HOK.out], ⟨?_⟩, ⟨stkeep H2.out hne (2 + j) _⟩, ⟨fun i hi => ?_⟩, ⟨fun i u hu => ?_⟩, ⟨HB6.out.setCell (p := ⟨g7, 2 + j, none⟩) HG7.out _⟩⟩
                · rw [← eC_set t r j hlt, show nvA r j = m by unfold nvA; rw [← HX.out.1]; exact HM.out.1.symm]
                  exact blk_set H7.out (2 + j) (.int .i64 (m : Int))
                · rw [World.cell?_setCell_other w6 ⟨g7, 2 + j, none⟩ ⟨gp, i, none⟩ _ (by intro h; injection h with h _; exact HGP.out h.symm)]
                  exact HP6.out i hi
                · rw [World.cell?_setCell_other w6 ⟨g7, 2 + j, none⟩ ⟨rg, ro + i, none⟩ _ (by intro h; injection h with h _; exact hrg7 h.symm)]
                  exact HC6.out i u hu⟩
              cases o
              all_goals
                go_wp2_with fail
                exact ⟨HZ.out, by simp [intOf]; omega⟩
            · have p1 : decide ((j : Int) < 4) = false := decide_eq_false (by omega)
              obtain rfl : j = 4 := by omega
              have K7 : wr.heap[g7]? = some (.cells (stC 1 (t : Int) (nvA r 0 : Nat) (nvA r 1 : Nat) (nvA r 2 : Nat) (nvA r 3 : Nat) []) 26 (0, 0)) := hE7.out
              obtain ⟨⟨c0, c1, c2, c3, c4, c5, c6⟩, f0, f1, f2, f3, f4, f5, f6⟩ := stcells hE2.out
              obtain ⟨⟨d0, d1, d2, d3, d4, d5, d6⟩, e0, e1, e2, e3, e4, e5, e6⟩ := stcells K7
              have l2 := blk_ltI hE2.out
              have l7 := blk_ltI K7
              have H7 := Aside0.mk K7
              clear K7 hP hC2
              cases ho : okA b r 4
              · have HP : Aside0 (parV s.data.toList = .tuple #[stV stZ, .int .i64 320]) := ⟨by
                  cases hb : b with
                  | false => exact par_err HW.out (by rw [← hb]; exact HT.out.2)
                  | true =>
                    refine par_no HW.out (fun t => ?_)
                    rw [HK.out, step_four HR4.out, if_neg (by rw [hb] at ho; rw [ho]; decide)]⟩
                clear ho
                go_wp2_with fail
                refine bodyPost_ret (parse_load g2 _ _ _ _ rfl rfl rfl (stset hE2.out _ _ _ _ _ _ _)) rfl ?_
                exact ⟨by rw [HP.out]; rfl, stbelow hBr.out (by rw [HG.out]; exact Nat.le_refl _) _ _ _ _ _ _ _⟩
              · have HP : Aside0 (parV s.data.toList = .tuple #[stV ⟨1, t, (nvA r 0 : Nat), (nvA r 1 : Nat), (nvA r 2 : Nat), (nvA r 3 : Nat), []⟩, .int .i64 0]) := ⟨by
                  obtain ⟨hb, h4⟩ := okA_false b r ho
                  refine par_st HW.out (by rw [← hb]; exact HT.out.2) ?_
                  rw [HK.out, step_four HR4.out, if_pos h4, HT.out.1]⟩
                obtain ⟨m0, hm0⟩ : ∃ m, m = nvA r 0 := ⟨_, rfl⟩
                obtain ⟨m1, hm1⟩ : ∃ m, m = nvA r 1 := ⟨_, rfl⟩
                obtain ⟨m2, hm2⟩ : ∃ m, m = nvA r 2 := ⟨_, rfl⟩
                obtain ⟨m3, hm3⟩ : ∃ m, m = nvA r 3 := ⟨_, rfl⟩
                rw [← hm0, ← hm1, ← hm2, ← hm3] at HP
                rw [← hm0] at d2
                rw [← hm1] at d3
                rw [← hm2] at d4
                rw [← hm3] at d5
                clear ho hm0 hm1 hm2 hm3
                go_wp2_with fail
                refine bodyPost_ret (parse_load g2 _ _ _ _ rfl rfl rfl (stset hE2.out _ _ _ _ _ _ _)) rfl ?_
                exact ⟨by rw [HP.out]; rfl, stbelow hBr.out (by rw [HG.out]; exact Nat.le_refl _) _ _ _ _ _ _ _⟩
        · have HP := Aside0.mk (par_no HW.out (step_default h3 h4 h5))
          have HD : Aside0 ((∃ x y z : Bool, True)) := ⟨⟨true, true, true, trivial⟩⟩
          have HQ : Aside0 (((k == [116]) = false ∨ ((k == [116]) = true ∧ ((n : Int) == 2) = false)) ∧ ((k == [102]) = false ∨ ((k == [102]) = true ∧ ((n : Int) == 3) = false)) ∧ ((k == [101]) = false ∨ ((k == [101]) = true ∧ ((n : Int) == 6) = false))) := by
            have hh : ∀ (x : List UInt8) (m : Nat), ¬ (k = x ∧ r.length = m) → ((k == x) = false ∨ ((k == x) = true ∧ ((n : Int) == ((m + 2 : Nat) : Int)) = false)) := by
              intro x m h
              by_cases hx : k = x
              · refine .inr ⟨by rw [hx]; simp, beq_eq_false_iff_ne.2 (fun e => h ⟨hx, ?_⟩)⟩
                have := HNR.out
                omega
              · exact .inl (beq_eq_false_iff_ne.2 hx)
            exact ⟨⟨hh [116] 0 h3, hh [102] 1 h4, hh [101] 4 h5⟩⟩
          clear h3 h4 h5 HD
          obtain ⟨z1, z2, z3⟩ := HQ.out
          rcases z1 with q2 | ⟨q2, q3⟩ <;> rcases z2 with q4 | ⟨q4, q5⟩ <;> rcases z3 with q6 | ⟨q6, q7⟩
          all_goals
            go_wp2_with fail
            refine bodyPost_ret (parse_load g2 _ _ _ _ rfl rfl rfl (stset H2.out _ _ _ _ _ _ _)) rfl ?_
            exact ⟨by rw [HP.out]; rfl, stbelow HB4.out (by rw [HG.out]; exact Nat.le_refl _) _ _ _ _ _ _ _⟩
end Go.Proofs.YtkjjjgplidompaaDoor.B
