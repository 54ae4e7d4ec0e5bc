/-
  An array of three whole numbers, opened to its cells. Plain law, no program.
-/
import Derived.Test.YthkjfcjmjhplaaaDoorAg
import Derived.WideKeyArr2
namespace Go.Proofs.YthkjfcjmjhplaaaDoor.B
open Go.Joins Go.ChangeShapes Go.WideShapes Go.RowKit Go.Deep
theorem open_arr3 {H : Type} {enc : TypeId × Value → H} {P : Program} {w : World} {base : Nat} {spare : Nat → Bool} {held : Bool} {q : IntKind} {r : Reach} {b0 : Nat} {t e : TypeId} {v : Value} {d : DataW H} {p : List MemPlace} (hs : P.underlying t = some (.array 3 e)) (he : P.underlying e = some (.int q)) (h1 : P.cellsOf e = 1) (hC : P.cellsOf t = 3)
    (hv : Value.okWide P w r b0 t v) (h : DataW.Trod enc P w base spare held t v d p) : ∃ a b c : Int, v = .agg #[.int q a, .int q b, .int q c] ∧ (Lit.int q a).wf = true ∧ (Lit.int q b).wf = true ∧ (Lit.int q c).wf = true := by
  simp only [Value.okWide, hs] at hv
  obtain ⟨cs, rfl, h2, _⟩ := hv
  rw [hC] at h2
  obtain ⟨l⟩ := cs
  match l, h2 with
  | [c0, c1, c2], _ =>
    obtain ⟨fuel, hf⟩ := h
    cases fuel with
    | zero => simp [DataW.trod] at hf
    | succ m =>
      rw [DataW.trod_step] at hf
      unfold DataW.trodStep at hf
      simp only [hs, Value.cells] at hf
      rw [if_pos (by rw [hC]; rfl)] at hf
      simp only [Option.map_eq_some_iff] at hf
      obtain ⟨ys, hy, e1⟩ := hf
      rw [h1] at hy
      have hr : List.range 3 = [0, 1, 2] := rfl
      rw [hr] at hy
      simp only [List.mapM_cons, List.mapM_nil, bind, Option.bind_eq_some_iff, pure, Option.some.injEq] at hy
      obtain ⟨x0, hx0, _, ⟨x1, hx1, _, ⟨x2, hx2, _⟩, _⟩, _⟩ := hy
      obtain ⟨a, ea, _, wa⟩ := DataW.trod_int he hx0
      obtain ⟨b, eb, _, wb⟩ := DataW.trod_int he hx1
      obtain ⟨c, ec, _, wc⟩ := DataW.trod_int he hx2
      simp at ea eb ec
      subst ea eb ec
      exact ⟨a, b, c, rfl, wa, wb, wc⟩
end Go.Proofs.YthkjfcjmjhplaaaDoor.B
