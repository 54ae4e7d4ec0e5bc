/-
  Slices within a row of their own: what leaves them as they are. Laws over memory.
-/
import Derived.Test.YtkjjjgplidompaaDoorRo
import Derived.Test.YtkjjjgplidompaaDoorBh
namespace Go.Proofs.YtkjjjgplidompaaDoor.B
open Go.RowKit Go.Proofs.YtkjjjgplidompaaDoorW.PrintWords Go.Proofs.YtkjjjgplidompaaDoorW.PrintLast Go.Proofs.YtkjjjgplidompaaDoorW.PrintMore
set_option linter.unusedVariables false
set_option linter.unusedSimpArgs false
theorem RowV.touch {w w' : World} {S : Nat → Prop} {base : Nat} {e : TypeId} {sz : Nat} {v : Value} {n : Nat} {xs : List Value} (h : RowV w base e sz v n xs) (T : Touch S w w') (hS : ∀ k, v.ownBlock = some k → ¬ S k) : RowV w' base e sz v n xs :=
  h.keep (fun k hk _ _ => T.block k (h.lt hk).1 (hS k hk))
theorem RowV.below {w w' : World} {base : Nat} {e : TypeId} {sz : Nat} {v : Value} {n : Nat} {xs : List Value} (h : RowV w base e sz v n xs) (hb : Below w.heap.size w w') : RowV w' base e sz v n xs := h.touch (Touch.of_below (S := fun _ => False) hb) (fun _ _ hf => hf)
theorem RowV.alloc {w : World} {base : Nat} {e : TypeId} {sz : Nat} {v : Value} {n : Nat} {xs : List Value} (h : RowV w base e sz v n xs) (o : Obj) : RowV (w.alloc o) base e sz v n xs := h.below ((Below.refl _ _).alloc (Nat.le_refl _) _)
/-- A cell of another type is written. -/
theorem RowV.setCell {w : World} {base : Nat} {e : TypeId} {sz : Nat} {v : Value} {n : Nat} {xs : List Value} (h : RowV w base e sz v n xs) {p : Addr} (u : Value) (hp : v.ownBlock ≠ some p.block) : RowV (w.setCell p u) base e sz v n xs :=
  h.keep (fun k hk _ _ => Below.heap_setCell w p u k (fun e => hp (e ▸ hk)))
theorem RowV.low {w : World} {base b2 : Nat} {e : TypeId} {sz : Nat} {v : Value} {n : Nat} {xs : List Value} (h : RowV w base e sz v n xs) (hb : b2 ≤ base) : RowV w b2 e sz v n xs := by
  obtain ⟨q1, q2 | ⟨g, off, cap, q3, q4, q5⟩⟩ := h
  · exact ⟨q1, .inl q2⟩
  · exact ⟨q1, .inr ⟨g, off, cap, q3, Nat.le_trans hb q4, q5⟩⟩
theorem RowV.empty (w : World) (base : Nat) (e : TypeId) (sz : Nat) (hb : base ≤ w.heap.size) : RowV (w.alloc (.cells #[] e)) base e sz (.slice (some ⟨w.heap.size, 0, none⟩) 0 0) 0 [] :=
  ⟨by simp, .inr ⟨w.heap.size, 0, 0, rfl, hb, by simp only [World.shape?, blk_new w (.cells #[] e)]; rfl, Nat.le_refl _, Nat.zero_le _, fun j u h => (by simp at h), fun j h => (by simp at h)⟩⟩
theorem below_new {w w1 w5 : World} {row : Option Nat} (hb : Below w.heap.size w w1) (hG : w1.grownBy w5 row) (hr : ∀ k, row = some k → w.heap.size ≤ k) : Below w.heap.size w w5 :=
  ⟨hG.os.trans hb.os, hG.tape.trans hb.tape, hG.output.trans hb.output, Nat.le_trans hb.size hG.size, fun k hk => (hG.block k (Nat.lt_of_lt_of_le hk hb.size) (fun e => by have := hr k e.symm; omega)).trans (hb.block k hk)⟩
theorem new_news (w : World) (cs : List Value) (t : TypeId) : ∀ j u, cs[j]? = some u → (w.alloc (.cells cs.toArray t)).cell? ((⟨w.heap.size, 0, none⟩ : Addr).add j) = some u := by
  intro j u h
  rw [Addr.add_lit, Nat.zero_add, blk_cell (blk_new w _) j]
  simpa using h
end Go.Proofs.YtkjjjgplidompaaDoor.B
