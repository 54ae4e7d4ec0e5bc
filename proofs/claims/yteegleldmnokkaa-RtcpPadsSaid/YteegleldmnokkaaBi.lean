/-
  The program's reader: its making and what is left; rows of numbers in the form that the printed texts ask.
-/
import Derived.Deep.RegionLaw
import Derived.Deep.RegionWith
import Derived.StillTailTactics
import Derived.Test.YteegleldmnokkaaBh
namespace Go.Proofs.Yteegleldmnokkaa.B
open Go.RowKit Go.Proofs.YteegleldmnokkaaW.PrintWords Go.Proofs.YteegleldmnokkaaW.PrintLast Go.Proofs.YteegleldmnokkaaW.PrintMore
set_option linter.unusedVariables false
set_option linter.unusedSimpArgs false

theorem read_any (w : World) (s : ByteArray) : Calls Try.prog 26 #[.string s] w fun e w' => e = .returned (.pointer (some ⟨w.heap.size, 0, none⟩)) ∧ w' = w.alloc (.cells #[.string s, .int .i64 0, .bool false] 71) := by
  go_enter Try.func26, Try.ntmps26
  go_wp2
  go_ret
  exact ⟨rfl, rfl⟩

theorem R_of_own {w : World} {base e : Nat} {v : Value} {xs : List Int} (h : w.ownsRow base e 1 v xs.length (nums .i64 xs)) : Kd.R (Kd.int .i64) e w base (fun _ => True) v xs := by
  refine ⟨fun _ _ => trivial, nums .i64 xs, h, ?_⟩
  refine ⟨by show _ = xs.length * 1; simp [nums], fun j p hj => ?_⟩
  show ((nums .i64 xs).drop (j * 1)).take 1 = [Value.int .i64 p]
  rw [Nat.mul_one]
  have hlt : j < xs.length := (List.getElem?_eq_some_iff.1 hj).1
  rw [List.drop_eq_getElem_cons (by simpa [nums] using hlt)]
  simp [nums, (List.getElem?_eq_some_iff.1 hj).2]
theorem own_of_R {w : World} {base e : Nat} {v : Value} {xs : List Int} {ok : Nat → Prop} (h : Kd.R (Kd.int .i64) e w base ok v xs) : w.ownsRow base e 1 v xs.length (nums .i64 xs) := by
  obtain ⟨_, inner, ho, hl, hr⟩ := h
  have hl' : inner.length = xs.length := by have : inner.length = xs.length * 1 := hl; omega
  have : inner = nums .i64 xs := by
    apply List.ext_getElem
    · simp [nums, hl']
    · intro j h1 h2
      have hj : j < xs.length := by omega
      have := hr j xs[j] (List.getElem?_eq_getElem hj)
      have e2 : (inner.drop (j * 1)).take 1 = [Value.int .i64 xs[j]] := this
      rw [Nat.mul_one, List.drop_eq_getElem_cons h1, List.take_succ_cons] at e2
      rw [(List.cons.inj e2).1]
      simp [nums]
  rw [← this]
  exact ho
section
variable {P : Program} {ops : Array Oper} {o : Oper} {a : Act} {K : Act → World → Prop} {Q : Exit → Act → World → Prop}
/-- append of one number, as a step of a region that draws its order. -/
theorem step_append_num {w0 W : World} (base : Nat) (hw : Region.wanted o (yielded ops a.tmps) = true) (s x : Operand) (t e : TypeId) (k : IntKind) (bytes : Nat)
    (ho : o.op = .call { callee := .builtin .append, args := #[s, x], argTypes := #[t, t] })
    (ht : P.underlying t = some (.slice e)) (hinfo : (P.info? e).map (fun i => (i.zero, i.size, i.bytes)) = some (some (.int k 0), 1, bytes)) (hb0 : 0 < bytes)
    (v : Value) (xs : List Int) (y : Int) (hs : a.eval s = v) (hx : a.eval x = .slice (some ⟨W.heap.size, 0, none⟩) 1 1)
    (HO : W.ownsRow base e 1 v xs.length (nums k xs)) (HB : Below base w0 W) (hbase : base ≤ W.heap.size) (hl : (xs.length + 1) * bytes ≤ 140737488355328)
    (h : ∀ v1 w1, w1.ownsRow base e 1 v1 (xs ++ [y]).length (nums k (xs ++ [y])) → Below base w0 w1 → W.grownBy w1 v.ownBlock → (v1.ownBlock = v.ownBlock ∨ ∃ b, v1.ownBlock = some b ∧ W.heap.size ≤ b) → K (a.put o.dst v1) w1) :
    if Region.wanted o (yielded ops a.tmps) = true then Oper.wp P o a (W.alloc (.cells #[.int k y] e)) K Q else K (a.put o.dst undef) (W.alloc (.cells #[.int k y] e)) :=
  step_append_cells base hw s x t e (.int k 0) 1 bytes ho ht hinfo rfl (by omega) hb0 v xs.length (nums k xs) [.int k y] hs hx rfl (by simp [Value.oneCell']) HO HB hbase hl
    fun v1 w1 hown hB hg hat => h v1 w1 (by simpa [nums] using hown) hB hg hat
end
theorem get_int (w : World) (p : Nat) (s : ByteArray) (a n : Int) (h : RdIs w p 71 s a false) (hs : s.size ≤ 1000000000000) (ha : 0 ≤ a) (hn0 : 0 ≤ n) (hn : n ≤ 32) (hl : a + n ≤ 8 * s.size) :
    Calls Try.prog 27 #[.pointer (some ⟨p, 0, none⟩), .int .i64 n] w fun e w' => e = .returned (.int .u32 (rdBits s a.toNat n.toNat : Int)) ∧ RdIs w' p 71 s (a + n) false ∧ w.grownBy w' (some p) := by
  obtain ⟨a, rfl⟩ : ∃ m : Nat, a = m := ⟨a.toNat, by omega⟩
  obtain ⟨n, rfl⟩ : ∃ m : Nat, n = m := ⟨n.toNat, by omega⟩
  exact get_good w p s a n h hs (by omega) (by omega) (by omega)
theorem blk_set3 {w : World} {b t : Nat} {x0 x1 x2 : Value} (y0 y1 y2 : Value) (h : w.heap[b]? = some (.cells #[x0, x1, x2] t (0, 0))) :
    (((w.setCell ⟨b, 0, none⟩ y0).setCell ⟨b, 1, none⟩ y1).setCell ⟨b, 2, none⟩ y2).heap[b]? = some (.cells #[y0, y1, y2] t (0, 0)) := by
  have h1 := blk_set h 0 y0
  have h2 := blk_set h1 1 y1
  have h3 := blk_set h2 2 y2
  refine h3.trans ?_
  simp
theorem own_set3 {w : World} {b base e size n : Nat} {v : Value} {xs : List Value} (y0 y1 y2 : Value) (h : w.ownsRow base e size v n xs) (hb : b < base) :
    (((w.setCell ⟨b, 0, none⟩ y0).setCell ⟨b, 1, none⟩ y1).setCell ⟨b, 2, none⟩ y2).ownsRow base e size v n xs := by
  have hne : some b ≠ v.ownBlock := fun e => by have := own_base h b e.symm; omega
  exact own_setCell (own_setCell (own_setCell h (p := ⟨b, 0, none⟩) hne y0) (p := ⟨b, 1, none⟩) hne y1) (p := ⟨b, 2, none⟩) hne y2
theorem below_set3 {w w1 : World} {b : Nat} (y0 y1 y2 : Value) (h : Below b w w1) :
    Below b w (((w1.setCell ⟨b, 0, none⟩ y0).setCell ⟨b, 1, none⟩ y1).setCell ⟨b, 2, none⟩ y2) :=
  ((h.setCell (p := ⟨b, 0, none⟩) (Nat.le_refl b) _).setCell (p := ⟨b, 1, none⟩) (Nat.le_refl b) _).setCell (p := ⟨b, 2, none⟩) (Nat.le_refl b) _
end Go.Proofs.Yteegleldmnokkaa.B
