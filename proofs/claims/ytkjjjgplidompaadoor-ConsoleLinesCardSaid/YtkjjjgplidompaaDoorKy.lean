/-
  What is told comes in, opened.
-/
import Derived.Test.YtkjjjgplidompaaDoorKs
import Derived.Test.YtkjjjgplidompaaDoorKx
namespace Go.Proofs.YtkjjjgplidompaaDoor.B
open Go.Joins Go.ChangeShapes Go.WideShapes Go.RowKit Go.Deep
section
variable {H : Type} {enc : TypeId × Value → H} {w : World} {base : Nat} {spare : Nat → Bool} {held : Bool}
theorem open_intsAt {n : Nat} {c : Value} {y : DataW H × List MemPlace} (h : DataW.trod enc Tryd.prog w base spare held n 41 [c] = some y) : ∃ A l cp f, c = .slice A l cp ∧ l ≤ cp ∧ cp ≤ maxLen ∧ IntsAt w A l f ∧ ∀ j, j < l → I64 (f j) := by
  rcases open_ints Tryd.underlying41 Tryd.underlying3 (by kernel_rfl) h with ⟨hcs, _⟩ | ⟨a, l, cp, zs, hcs, _, hl, hm, hz, _, hcell, hwz⟩
  · simp at hcs
    exact ⟨none, 0, 0, fun _ => 0, hcs, Nat.le_refl _, Nat.zero_le _, fun j hj => absurd hj (by omega), fun j hj => absurd hj (by omega)⟩
  · simp at hcs
    have hlz : l ≤ zs.length := by rw [hz]; split <;> omega
    refine ⟨some a, l, cp, fun j => zs.getD j 0, hcs, hl, hm, fun j hj => ⟨a, rfl, hcell j (by omega)⟩, fun j hj => wf_i64 (hwz _ ?_)⟩
    show zs.getD j 0 ∈ zs
    rw [List.getD_eq_getElem?_getD, List.getElem?_eq_getElem (show j < zs.length by omega)]
    exact List.getElem_mem _
set_option maxRecDepth 100000 in
theorem open_outsAt {n : Nat} {c : Value} {y : DataW H × List MemPlace} (h : DataW.trod enc Tryd.prog w base spare held n 40 [c] = some y) : ∃ A l cp f, c = .slice A l cp ∧ l ≤ cp ∧ cp ≤ maxLen ∧ IntsAt w A (l * 7) f ∧ ∀ j, j < l * 7 → I64 (f j) := by
  rcases open_slice Tryd.underlying40 h with ⟨hcs, _⟩ | ⟨a, l, cp, m, n', D, Pl, hcs, _, hl, hm, hmm, _, hi⟩
  · simp at hcs
    exact ⟨none, 0, 0, fun _ => 0, hcs, Nat.le_refl _, Nat.zero_le _, fun j hj => absurd hj (by omega), fun j hj => absurd hj (by omega)⟩
  · simp at hcs
    have hC : Tryd.prog.cellsOf 64 = 7 := by kernel_rfl
    have C3 : Tryd.prog.cellsOf 3 = 1 := by kernel_rfl
    have C2 : Tryd.prog.cellsOf 2 = 1 := by kernel_rfl
    have C24 : Tryd.prog.cellsOf 24 = 4 := by kernel_rfl
    have key : ∀ j, j < l * 7 → ∃ n, w.cell? (a.add j) = some (.int .i64 n) ∧ I64 n := by
      intro j hj
      obtain ⟨cs, hc, ht⟩ := hi (j / 7) (by rw [hmm]; split <;> omega)
      rw [hC] at hc
      obtain ⟨_, hcl, hat⟩ := World.cells?_some hc
      have hat := hat (j % 7) (by omega)
      rw [Go.Deep.add_add, show j / 7 * 7 + j % 7 = j by omega] at hat
      rw [hat]
      match cs, hcl with
      | [c0, c1, c2, c3, c4, c5, c6], _ =>
        obtain ⟨xs, n, _, hx, _, hlen, hg⟩ := DataW.trod_struct Tryd.underlying64 ht
        match xs, hlen with
        | [y0, y1, y2, y3], _ =>
          have t0 : DataW.trod enc Tryd.prog w base spare held n 24 [c0, c1, c2, c3] = some y0 := by simpa [Value.cells, C24] using hg 0 _ rfl
          have t1 : DataW.trod enc Tryd.prog w base spare held n 3 [c4] = some y1 := by simpa [Value.cells, C3] using hg 1 _ rfl
          have t2 : DataW.trod enc Tryd.prog w base spare held n 2 [c5] = some y2 := by simpa [Value.cells, C2] using hg 2 _ rfl
          have t3 : DataW.trod enc Tryd.prog w base spare held n 3 [c6] = some y3 := by simpa [Value.cells, C3] using hg 3 _ rfl
          obtain ⟨xs2, n2, _, hx2, _, hlen2, hg2⟩ := DataW.trod_struct Tryd.underlying24 t0
          match xs2, hlen2 with
          | [z0, z1, z2, z3], _ =>
            have p0 : DataW.trod enc Tryd.prog w base spare held n2 3 [c0] = some z0 := by simpa [C3] using hg2 0 _ rfl
            have p1 : DataW.trod enc Tryd.prog w base spare held n2 3 [c1] = some z1 := by simpa [C3] using hg2 1 _ rfl
            have p2 : DataW.trod enc Tryd.prog w base spare held n2 3 [c2] = some z2 := by simpa [C3] using hg2 2 _ rfl
            have p3 : DataW.trod enc Tryd.prog w base spare held n2 3 [c3] = some z3 := by simpa [C3] using hg2 3 _ rfl
            obtain ⟨n10, e0, _, w0⟩ := DataW.trod_int Tryd.underlying3 p0
            obtain rfl : c0 = .int .i64 n10 := by simpa using e0
            obtain ⟨n11, e1, _, w1⟩ := DataW.trod_int Tryd.underlying3 p1
            obtain rfl : c1 = .int .i64 n11 := by simpa using e1
            obtain ⟨n12, e2, _, w2⟩ := DataW.trod_int Tryd.underlying3 p2
            obtain rfl : c2 = .int .i64 n12 := by simpa using e2
            obtain ⟨n13, e3, _, w3⟩ := DataW.trod_int Tryd.underlying3 p3
            obtain rfl : c3 = .int .i64 n13 := by simpa using e3
            obtain ⟨n14, e4, _, w4⟩ := DataW.trod_int Tryd.underlying3 t1
            obtain rfl : c4 = .int .i64 n14 := by simpa using e4
            obtain ⟨n15, e5, _, w5⟩ := DataW.trod_int Tryd.underlying2 t2
            obtain rfl : c5 = .int .i64 n15 := by simpa using e5
            obtain ⟨n16, e6, _, w6⟩ := DataW.trod_int Tryd.underlying3 t3
            obtain rfl : c6 = .int .i64 n16 := by simpa using e6
            have h7 : j % 7 = 0 ∨ j % 7 = 1 ∨ j % 7 = 2 ∨ j % 7 = 3 ∨ j % 7 = 4 ∨ j % 7 = 5 ∨ j % 7 = 6 := by omega
            rcases h7 with e | e | e | e | e | e | e <;> rw [e]
            · exact ⟨n10, rfl, wf_i64 w0⟩
            · exact ⟨n11, rfl, wf_i64 w1⟩
            · exact ⟨n12, rfl, wf_i64 w2⟩
            · exact ⟨n13, rfl, wf_i64 w3⟩
            · exact ⟨n14, rfl, wf_i64 w4⟩
            · exact ⟨n15, rfl, wf_i64 w5⟩
            · exact ⟨n16, rfl, wf_i64 w6⟩
    refine ⟨some a, l, cp, fun j => intOf ((w.cell? (a.add j)).getD undef), hcs, hl, hm, fun j hj => ⟨a, rfl, ?_⟩, fun j hj => ?_⟩
    · obtain ⟨n, e, _⟩ := key j hj
      show _ = some (Value.int .i64 (intOf ((w.cell? (a.add j)).getD undef)))
      rw [e]
      rfl
    · obtain ⟨n, e, hn⟩ := key j hj
      show I64 (intOf ((w.cell? (a.add j)).getD undef))
      rw [e]
      exact hn
set_option maxRecDepth 100000 in
theorem open_told {r : Reach} {b0 : Nat} {v : Value} {d : DataW H} {p : List MemPlace}
    (hv : Value.okWide Tryd.prog w r b0 43 v) (h : DataW.Trod enc Tryd.prog w base spare held 43 v d p) :
    ∃ (T : LTold) (A : Option Addr) (cO : Nat) (B : Option Addr) (cD : Nat), v = .agg (toC T A cO B cD) ∧ (∀ x ∈ nineN T, I64 x) ∧ (∀ j, j < T.no * 7 → I64 (T.f j)) ∧ (∀ j, j < T.nd → I64 (T.h j)) ∧ T.no ≤ cO ∧ cO ≤ maxLen ∧ T.nd ≤ cD ∧ cD ≤ maxLen ∧ IntsAt w A (T.no * 7) T.f ∧ IntsAt w B T.nd T.h := by
  obtain ⟨cs, rfl, hsz⟩ := okWide_struct Tryd.underlying43 hv
  have hC : Tryd.prog.cellsOf 43 = 11 := by kernel_rfl
  have C3 : Tryd.prog.cellsOf 3 = 1 := by kernel_rfl
  have C2 : Tryd.prog.cellsOf 2 = 1 := by kernel_rfl
  have C40 : Tryd.prog.cellsOf 40 = 1 := by kernel_rfl
  have C41 : Tryd.prog.cellsOf 41 = 1 := by kernel_rfl
  obtain ⟨l⟩ := cs
  match l, hsz.trans hC with
  | [c0, c1, c2, c3, c4, c5, c6, c7, c8, c9, c10], _ =>
    obtain ⟨fuel, hf⟩ := h
    obtain ⟨xs, n, _, hx, _, hlen, hg⟩ := DataW.trod_struct Tryd.underlying43 hf
    match xs, hlen with
    | [y0, y1, y2, y3, y4, y5, y6, y7, y8, y9, y10], _ =>
      have t0 : DataW.trod enc Tryd.prog w base spare held n 2 [c0] = some y0 := by simpa [Value.cells, C2, C3] using hg 0 _ rfl
      have t1 : DataW.trod enc Tryd.prog w base spare held n 2 [c1] = some y1 := by simpa [Value.cells, C2, C3] using hg 1 _ rfl
      have t2 : DataW.trod enc Tryd.prog w base spare held n 2 [c2] = some y2 := by simpa [Value.cells, C2, C3] using hg 2 _ rfl
      have t3 : DataW.trod enc Tryd.prog w base spare held n 2 [c3] = some y3 := by simpa [Value.cells, C2, C3] using hg 3 _ rfl
      have t4 : DataW.trod enc Tryd.prog w base spare held n 2 [c4] = some y4 := by simpa [Value.cells, C2, C3] using hg 4 _ rfl
      have t5 : DataW.trod enc Tryd.prog w base spare held n 2 [c5] = some y5 := by simpa [Value.cells, C2, C3] using hg 5 _ rfl
      have t6 : DataW.trod enc Tryd.prog w base spare held n 3 [c6] = some y6 := by simpa [Value.cells, C2, C3] using hg 6 _ rfl
      have t7 : DataW.trod enc Tryd.prog w base spare held n 2 [c7] = some y7 := by simpa [Value.cells, C2, C3] using hg 7 _ rfl
      have t8 : DataW.trod enc Tryd.prog w base spare held n 3 [c8] = some y8 := by simpa [Value.cells, C2, C3] using hg 8 _ rfl
      have t9 : DataW.trod enc Tryd.prog w base spare held n 40 [c9] = some y9 := by simpa [Value.cells, C2, C3, C40] using hg 9 _ rfl
      have t10 : DataW.trod enc Tryd.prog w base spare held n 41 [c10] = some y10 := by simpa [Value.cells, C2, C3, C40, C41] using hg 10 _ rfl
      obtain ⟨a0, e0, _, w0⟩ := DataW.trod_int Tryd.underlying2 t0
      obtain rfl : c0 = .int .i64 a0 := by simpa using e0
      obtain ⟨a1, e1, _, w1⟩ := DataW.trod_int Tryd.underlying2 t1
      obtain rfl : c1 = .int .i64 a1 := by simpa using e1
      obtain ⟨a2, e2, _, w2⟩ := DataW.trod_int Tryd.underlying2 t2
      obtain rfl : c2 = .int .i64 a2 := by simpa using e2
      obtain ⟨a3, e3, _, w3⟩ := DataW.trod_int Tryd.underlying2 t3
      obtain rfl : c3 = .int .i64 a3 := by simpa using e3
      obtain ⟨a4, e4, _, w4⟩ := DataW.trod_int Tryd.underlying2 t4
      obtain rfl : c4 = .int .i64 a4 := by simpa using e4
      obtain ⟨a5, e5, _, w5⟩ := DataW.trod_int Tryd.underlying2 t5
      obtain rfl : c5 = .int .i64 a5 := by simpa using e5
      obtain ⟨a6, e6, _, w6⟩ := DataW.trod_int Tryd.underlying3 t6
      obtain rfl : c6 = .int .i64 a6 := by simpa using e6
      obtain ⟨a7, e7, _, w7⟩ := DataW.trod_int Tryd.underlying2 t7
      obtain rfl : c7 = .int .i64 a7 := by simpa using e7
      obtain ⟨a8, e8, _, w8⟩ := DataW.trod_int Tryd.underlying3 t8
      obtain rfl : c8 = .int .i64 a8 := by simpa using e8
      obtain ⟨A, nO, cO, f, rfl, hO, hcO, hA, hf'⟩ := open_outsAt t9
      obtain ⟨B, nD, cD, g, rfl, hD, hcD, hB, hg'⟩ := open_intsAt t10
      refine ⟨⟨a0, a1, a2, a3, a4, a5, a6, a7, a8, nO, nD, f, g⟩, A, cO, B, cD, rfl, ?_, hf', hg', hO, hcO, hD, hcD, hA, hB⟩
      intro x hx
      simp only [nineN, List.mem_cons, List.not_mem_nil, or_false] at hx
      rcases hx with rfl | rfl | rfl | rfl | rfl | rfl | rfl | rfl | rfl
      · exact wf_i64 w0
      · exact wf_i64 w1
      · exact wf_i64 w2
      · exact wf_i64 w3
      · exact wf_i64 w4
      · exact wf_i64 w5
      · exact wf_i64 w6
      · exact wf_i64 w7
      · exact wf_i64 w8
end
end Go.Proofs.YtkjjjgplidompaaDoor.B
