/-
  What a call may have changed: some blocks, and what is new. And a scope with labels, the run going forward.
-/
import Derived.Test.YtkjjjgplidompaaDoorWd
namespace Go.Proofs.YtkjjjgplidompaaDoor.B
open Go.RowKit Go.Proofs.YtkjjjgplidompaaDoorW.PrintWords Go.Proofs.YtkjjjgplidompaaDoorW.PrintLast Go.Proofs.YtkjjjgplidompaaDoorW.PrintMore
set_option linter.unusedVariables false
set_option linter.unusedSimpArgs false
/-- From w to w' nothing has changed but the blocks of S, and what is new. -/
structure Touch (S : Nat → Prop) (w w' : World) : Prop where
  os : w'.os = w.os
  tape : w'.tape = w.tape
  output : w'.output = w.output
  size : w.heap.size ≤ w'.heap.size
  block : ∀ i, i < w.heap.size → ¬ S i → w'.heap[i]? = w.heap[i]?
namespace Touch
variable {S : Nat → Prop} {w w1 w2 : World}
theorem refl (S : Nat → Prop) (w : World) : Touch S w w := ⟨rfl, rfl, rfl, Nat.le_refl _, fun _ _ _ => rfl⟩
theorem trans {S2 : Nat → Prop} (h : Touch S w w1) (k : Touch S2 w1 w2) (hS : ∀ i, S2 i → S i ∨ w.heap.size ≤ i) : Touch S w w2 :=
  ⟨k.os.trans h.os, k.tape.trans h.tape, k.output.trans h.output, Nat.le_trans h.size k.size, fun i hi hn => (k.block i (Nat.lt_of_lt_of_le hi h.size) (fun hs => (hS i hs).elim hn (fun hh => by omega))).trans (h.block i hi hn)⟩
theorem of_below (h : Below w.heap.size w w1) : Touch S w w1 := ⟨h.os, h.tape, h.output, h.size, fun i hi _ => h.block i hi⟩
theorem below (h : Touch S w w1) (k : Below w1.heap.size w1 w2) : Touch S w w2 := h.trans (of_below (S := fun _ => False) k) (fun _ hk => hk.elim)
theorem alloc (h : Touch S w w1) (o : Obj) : Touch S w (w1.alloc o) := h.below ((Below.refl _ _).alloc (Nat.le_refl _) _)
theorem drew (h : Touch S w w1) : Touch S w w1.drew := ⟨h.os, h.tape, h.output, h.size, h.block⟩
theorem drewN (h : Touch S w w1) (n : Nat) : Touch S w (w1.drewN n) := h.below (pw_below_drewN (Below.refl _ _) n)
theorem setCell (h : Touch S w w1) {p : Addr} (hp : S p.block ∨ w.heap.size ≤ p.block) (u : Value) : Touch S w (w1.setCell p u) :=
  ⟨h.os, h.tape, h.output, by have := h.size; simpa [World.setCell] using this, fun i hi hn => (Below.heap_setCell w1 p u i (fun e => hp.elim (fun hs => hn (e ▸ hs)) (fun hh => by omega))).trans (h.block i hi hn)⟩
theorem grown (h : Touch S w w1) {row : Option Nat} (hg : w1.grownBy w2 row) (hr : ∀ k, row = some k → S k ∨ w.heap.size ≤ k) : Touch S w w2 :=
  h.trans (S2 := fun k => row = some k) ⟨hg.os, hg.tape, hg.output, hg.size, fun i hi hn => hg.block i hi (fun e => hn e.symm)⟩ hr
theorem mono {S2 : Nat → Prop} (h : Touch S w w1) (hS : ∀ i, S i → S2 i ∨ w.heap.size ≤ i) : Touch S2 w w1 := ⟨h.os, h.tape, h.output, h.size, fun i hi hn => h.block i hi (fun hs => (hS i hs).elim hn (fun hh => by omega))⟩
theorem toBelow {b : Nat} (h : Touch S w w1) (hb : b ≤ w.heap.size) (hS : ∀ i, S i → b ≤ i) : Below b w w1 := ⟨h.os, h.tape, h.output, h.size, fun i hi => h.block i (by omega) (fun hs => by have := hS i hs; omega)⟩
theorem kept {o : Obj} {g : Nat} (h : Touch S w w1) (hb : w.heap[g]? = some o) (hn : ¬ S g) : w1.heap[g]? = some o := (h.block g (blk_lt hb) hn).trans hb
end Touch
/-- The way out of a scope whose run goes forward from label to label: to label l with J; to any other label of the scope, n times at most, by what stands behind it. -/
def Exit.fwd (P : Program) (c : Code) (l : Nat) (J : Act → World → Prop) (Q : Exit → Act → World → Prop) : Nat → Exit → Act → World → Prop
  | 0, .goto l', a, w => l' = l ∧ J a w
  | n + 1, .goto l', a, w => (l' = l ∧ J a w) ∨ ∃ r, findLabel c l' = some r ∧ r.wp P (Exit.fwd P c l J Q n) a w
  | _, e, a, w => Q e a w
theorem wp_scope_fwd {P : Program} {a : Act} {w : World} {Q : Exit → Act → World → Prop} {c rest : Code} (l n : Nat) (J : Act → World → Prop) (hf : findLabel c l = some rest)
    (pass : ∀ a w, J a w → rest.wp P (Exit.noGoto Q) a w) (first : c.wp P (Exit.fwd P c l J Q n) a w) : (Code.scope c).wp P Q a w := by
  intro b k cs
  have hg : ∀ l' r, findLabel c l' = some r → gotoIn l' (.inScope c :: k) = some (.code r :: .inScope c :: k) := fun l' r h => by simp [gotoIn, h]
  have last : ∀ a w, J a w → ∃ e a' w', Q e a' w' ∧ Arrives P (lone (b.at a (.code rest :: .inScope c :: k)) cs w) b k cs e a' w' := by
    intro a w hJ
    obtain ⟨e, a₁, w₁, hq, harr⟩ := pass a w hJ b (.inScope c :: k) cs
    cases e with
    | normal => exact ⟨.normal, a₁, w₁, hq, Steps.trans harr (.one step_inScope)⟩
    | exit id => exact ⟨.exit id, a₁, w₁, hq, fun k' hk => harr k' (by simp [exitTo, hk])⟩
    | goto l' => exact hq.elim
    | ret => exact ⟨_, a₁, w₁, hq, harr⟩
    | panic ch => exact ⟨_, a₁, w₁, hq, harr⟩
    | outgrown => exact ⟨_, a₁, w₁, hq, harr⟩
  have key : ∀ n (c' : Code) a w, c'.wp P (Exit.fwd P c l J Q n) a w → ∃ e a' w', Q e a' w' ∧ Arrives P (lone (b.at a (.code c' :: .inScope c :: k)) cs w) b k cs e a' w' := by
    intro n
    induction n with
    | zero =>
      intro c' a w h
      obtain ⟨e, a₁, w₁, hq, harr⟩ := h b (.inScope c :: k) cs
      cases e with
      | normal => exact ⟨.normal, a₁, w₁, hq, Steps.trans harr (.one step_inScope)⟩
      | exit id => exact ⟨.exit id, a₁, w₁, hq, fun k' hk => harr k' (by simp [exitTo, hk])⟩
      | goto l' =>
        obtain ⟨rfl, hJ⟩ := hq
        obtain ⟨e₂, a₂, w₂, hq₂, harr₂⟩ := last a₁ w₁ hJ
        exact ⟨e₂, a₂, w₂, hq₂, .of_steps (harr _ (hg _ _ hf)) harr₂⟩
      | ret => exact ⟨_, a₁, w₁, hq, harr⟩
      | panic ch => exact ⟨_, a₁, w₁, hq, harr⟩
      | outgrown => exact ⟨_, a₁, w₁, hq, harr⟩
    | succ n ih =>
      intro c' a w h
      obtain ⟨e, a₁, w₁, hq, harr⟩ := h b (.inScope c :: k) cs
      cases e with
      | normal => exact ⟨.normal, a₁, w₁, hq, Steps.trans harr (.one step_inScope)⟩
      | exit id => exact ⟨.exit id, a₁, w₁, hq, fun k' hk => harr k' (by simp [exitTo, hk])⟩
      | goto l' =>
        rcases hq with ⟨rfl, hJ⟩ | ⟨r, hr, hw⟩
        · obtain ⟨e₂, a₂, w₂, hq₂, harr₂⟩ := last a₁ w₁ hJ
          exact ⟨e₂, a₂, w₂, hq₂, .of_steps (harr _ (hg _ _ hf)) harr₂⟩
        · obtain ⟨e₂, a₂, w₂, hq₂, harr₂⟩ := ih r a₁ w₁ hw
          exact ⟨e₂, a₂, w₂, hq₂, .of_steps (harr _ (hg _ _ hr)) harr₂⟩
      | ret => exact ⟨_, a₁, w₁, hq, harr⟩
      | panic ch => exact ⟨_, a₁, w₁, hq, harr⟩
      | outgrown => exact ⟨_, a₁, w₁, hq, harr⟩
  obtain ⟨e, a₁, w₁, hq, harr⟩ := key n c a w first
  exact ⟨e, a₁, w₁, hq, .of_steps (.one step_scope) harr⟩
theorem fwd_of_noGoto {P : Program} {c : Code} {l : Nat} {J : Act → World → Prop} {Q : Exit → Act → World → Prop} (n : Nat) {a : Act} {w : World} {e : Exit} (h : Exit.noGoto Q e a w) : Exit.fwd P c l J Q n e a w := by
  cases n <;> cases e <;> first | exact h | exact h.elim
theorem fwd_ret {P : Program} {c : Code} {l : Nat} {J : Act → World → Prop} {Q : Exit → Act → World → Prop} (n : Nat) {a : Act} {w : World} (h : Q .ret a w) : Exit.fwd P c l J Q n .ret a w := by
  cases n <;> exact h
theorem fwd_to {P : Program} {c : Code} {l : Nat} {J : Act → World → Prop} {Q : Exit → Act → World → Prop} (n : Nat) {a : Act} {w : World} (h : J a w) : Exit.fwd P c l J Q n (.goto l) a w := by
  cases n
  · exact ⟨rfl, h⟩
  · exact .inl ⟨rfl, h⟩
theorem fwd_on {P : Program} {c r : Code} {l l' : Nat} {J : Act → World → Prop} {Q : Exit → Act → World → Prop} (n : Nat) {a : Act} {w : World} (hr : findLabel c l' = some r) (h : r.wp P (Exit.fwd P c l J Q n) a w) : Exit.fwd P c l J Q (n + 1) (.goto l') a w := .inr ⟨r, hr, h⟩
theorem wp_fwd_of_noGoto {P : Program} {c r : Code} {l : Nat} {J : Act → World → Prop} {Q : Exit → Act → World → Prop} (n : Nat) {a : Act} {w : World} (h : r.wp P (Exit.noGoto Q) a w) : r.wp P (Exit.fwd P c l J Q n) a w := Code.wp_mono (fun _ _ _ q => fwd_of_noGoto n q) h
theorem wp_scope_on {P : Program} {a : Act} {w : World} {Q : Exit → Act → World → Prop} {c rest : Code} (l n : Nat) (J : Act → World → Prop) (hf : findLabel c l = some (.seq .skip rest))
    (pass : ∀ a w, J a w → rest.wp P (Exit.noGoto Q) a w) (first : Aside0 (∀ a w, J a w → rest.wp P (Exit.noGoto Q) a w) → c.wp P (Exit.fwd P c l J Q n) a w) : (Code.scope c).wp P Q a w :=
  wp_scope_fwd l n J hf (fun a w h => wp_seq (wp_skip (pass a w h))) (first ⟨pass⟩)
end Go.Proofs.YtkjjjgplidompaaDoor.B
