/-
  A step that comes in, opened.
-/
import Derived.Test.YtkjjjgplidompaaDoorAg
import Derived.Test.YtkjjjgplidompaaDoorRw
import Derived.Test.YtkjjjgplidompaaDoorProg
namespace Go.Proofs.YtkjjjgplidompaaDoor.B
open Go.Joins Go.ChangeShapes Go.WideShapes Go.RowKit Go.Deep
set_option maxRecDepth 100000 in
theorem open_step {H : Type} {enc : TypeId × Value → H} {w : World} {base : Nat} {spare : Nat → Bool} {held : Bool} {r : Reach} {b0 : Nat} {v : Value} {d : DataW H} {p : List MemPlace}
    (hv : Value.okWide Tryd.prog w r b0 26 v) (h : DataW.Trod enc Tryd.prog w base spare held 26 v d p) :
    ∃ (k a i q u s : Int) (x : ByteArray), v = .agg #[.int .i64 k, .int .i64 a, .int .i64 i, .int .i64 q, .int .i64 u, .int .i64 s, .string x] ∧ I64 k ∧ I64 a ∧ I64 i ∧ I64 q ∧ I64 u ∧ I64 s := by
  obtain ⟨cs, rfl, hsz⟩ := okWide_struct Tryd.underlying26 hv
  have hC : Tryd.prog.cellsOf 26 = 7 := by kernel_rfl
  have C3 : Tryd.prog.cellsOf 3 = 1 := by kernel_rfl
  have C2 : Tryd.prog.cellsOf 2 = 1 := by kernel_rfl
  have C9 : Tryd.prog.cellsOf 9 = 1 := by kernel_rfl
  have C24 : Tryd.prog.cellsOf 24 = 4 := by kernel_rfl
  obtain ⟨l⟩ := cs
  match l, hsz.trans hC with
  | [c0, c1, c2, c3, c4, c5, c6], _ =>
    obtain ⟨fuel, hf⟩ := h
    obtain ⟨xs, n, _, hx, _, hlen, hg⟩ := DataW.trod_struct Tryd.underlying26 hf
    match xs, hlen with
    | [y0, y1, y2, y3], _ =>
      have t0 : DataW.trod enc Tryd.prog w base spare held n 3 [c0] = some y0 := by simpa [Value.cells, C3] using hg 0 _ rfl
      have t1 : DataW.trod enc Tryd.prog w base spare held n 2 [c1] = some y1 := by simpa [Value.cells, C2] using hg 1 _ rfl
      have t2 : DataW.trod enc Tryd.prog w base spare held n 24 [c2, c3, c4, c5] = some y2 := by simpa [Value.cells, C24] using hg 2 _ rfl
      have t3 : DataW.trod enc Tryd.prog w base spare held n 9 [c6] = some y3 := by simpa [Value.cells, C9] using hg 3 _ rfl
      obtain ⟨xs2, n2, _, hx2, _, hlen2, hg2⟩ := DataW.trod_struct Tryd.underlying24 t2
      match xs2, hlen2 with
      | [z0, z1, z2, z3], _ =>
        have p0 : DataW.trod enc Tryd.prog w base spare held n2 3 [c2] = some z0 := by simpa [C3] using hg2 0 _ rfl
        have p1 : DataW.trod enc Tryd.prog w base spare held n2 3 [c3] = some z1 := by simpa [C3] using hg2 1 _ rfl
        have p2 : DataW.trod enc Tryd.prog w base spare held n2 3 [c4] = some z2 := by simpa [C3] using hg2 2 _ rfl
        have p3 : DataW.trod enc Tryd.prog w base spare held n2 3 [c5] = some z3 := by simpa [C3] using hg2 3 _ rfl
        obtain ⟨k, e0, _, w0⟩ := DataW.trod_int Tryd.underlying3 t0
        obtain ⟨a, e1, _, w1⟩ := DataW.trod_int Tryd.underlying2 t1
        obtain ⟨i, e2, _, w2⟩ := DataW.trod_int Tryd.underlying3 p0
        obtain ⟨q, e3, _, w3⟩ := DataW.trod_int Tryd.underlying3 p1
        obtain ⟨u, e4, _, w4⟩ := DataW.trod_int Tryd.underlying3 p2
        obtain ⟨s, e5, _, w5⟩ := DataW.trod_int Tryd.underlying3 p3
        obtain ⟨x, e6, _, w6⟩ := DataW.trod_string Tryd.underlying9 t3
        obtain rfl : c0 = .int .i64 k := by simpa using e0
        obtain rfl : c1 = .int .i64 a := by simpa using e1
        obtain rfl : c2 = .int .i64 i := by simpa using e2
        obtain rfl : c3 = .int .i64 q := by simpa using e3
        obtain rfl : c4 = .int .i64 u := by simpa using e4
        obtain rfl : c5 = .int .i64 s := by simpa using e5
        obtain rfl : c6 = .string x := by simpa using e6
        exact ⟨k, a, i, q, u, s, x, rfl, wf_i64 w0, wf_i64 w1, wf_i64 w2, wf_i64 w3, wf_i64 w4, wf_i64 w5⟩
end Go.Proofs.YtkjjjgplidompaaDoor.B
