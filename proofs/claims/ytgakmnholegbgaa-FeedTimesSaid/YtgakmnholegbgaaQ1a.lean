/- What the law leans on, part 1 of 4: plain laws and walks of this session, and words that a tool of the kit printed for it; what nothing leans on is left out. -/
import Derived.Test.YtgakmnholegbgaaRows
import Derived.Test.YtgakmnholegbgaaProg
import Derived.Below
import Derived.Deep.Draws
import Derived.Deep.AppendLies
import Derived.Maps.AppendAt
import Derived.OwnWalk
import Derived.Laws.BytesArg
import Derived.Laws.MakeOwn
import Derived.Laws.OwnMore
import Derived.Deep.OwnRows
import Derived.Tactics
import Derived.Lib.ConvBytes
import Derived.Laws.Slices
import Derived.WalkKit
import Derived.KernelRfl
import Derived.RowKit3
import Derived.Deep.LoopGhost
import Derived.Deep.QuietTactic
import Derived.BigQuiet
import Derived.WideLaws
import Derived.Deep.DeepCutAuto
import Derived.Deep.CutBlock
import Derived.Deep.RegionHeld3
import Derived.Laws.Rows
import Derived.Lib.AppendStr
import Derived.ArgAppend
import Derived.Laws.IdiomCopy
import Derived.OrdersHeld
import Derived.Laws.BitsLemmas
import Derived.RowKit
import Derived.Laws.StructEq
import Derived.BigRegion
import Derived.WalkMore
import Derived.ScopeJumps
import Derived.Outline
import Derived.Laws.Externs
import Derived.Lib.BitFns
import Derived.Deep.Light
import Derived.Lib.Mul64
import Derived.Lib.Strings
import Derived.Lib.Slices
import Derived.Lib.Small
import Derived.Lib.Walk
import Derived.Laws.Bits64b
import Derived.Lib.UnsafeStr
import Derived.Deep.RegionLaw
import Derived.Deep.RegionWith
import Derived.StillTailTactics
import Derived.Defers
import Derived.Recover
import Derived.Laws.Pointers
import Derived.WalkLawsBesides
import Derived.Laws.DeepStrings4
import Derived.Lib.SmallJoins
import Derived.Deep.Slices
import Derived.Deep.Fields
import Derived.ChangeSame
import Derived.ProofKit
import Derived.OpenShut
import Derived.ShutString
import Derived.ChangeOld
import Derived.SizedLaws
section
set_option linter.unusedVariables false
set_option linter.unusedSimpArgs false
namespace Go.Proofs.YtgakmnholegbgaaW.PrintWords
open Go.RowKit
structure Aside0 (p : Prop) : Prop where mk :: (out : p)
structure Drawn0 (w w' : World) : Prop where mk :: (out : ∃ n, w' = w.drewN n)
theorem Drawn0.refl (w : World) : Drawn0 w w := ⟨⟨0, rfl⟩⟩
theorem Drawn0.step {w w' : World} (h : Drawn0 w w') (n : Nat) : Drawn0 w (w'.drewN n) := by
 obtain ⟨m, rfl⟩ := h
 exact ⟨⟨m + n, World.drewN_drewN ..⟩⟩
theorem Drawn0.grown {w w' : World} (h : Drawn0 w w') : Grown w w' := by
 obtain ⟨n, rfl⟩ := h
 induction n with
 | zero => exact Grown.refl _
 | succ n ih => rw [← World.drew_drewN]; exact Grown.drew ih
theorem Drawn0.below {w w' : World} (h : Drawn0 w w') : Below w.heap.size w w' := by
 obtain ⟨n, rfl⟩ := h
 induction n with
 | zero => exact Below.refl _ _
 | succ n ih => rw [← World.drew_drewN]; exact ih.drew
def rd (xs : List Int) (i : Int) : Int := xs.getD i.toNat 0
def bt (s : ByteArray) (i : Int) : Int := if h : i.toNat < s.size then ((s[i.toNat]'h).toNat : Int) else 0
theorem bt_at (s : ByteArray) (i : Int) : ∀ h : i.toNat < s.size, ((s[i.toNat]'h).toNat : Int) = bt s i := fun h => by simp [bt, h]
theorem bt_range (s : ByteArray) (i : Int) : 0 ≤ bt s i ∧ bt s i ≤ 255 := by
 unfold bt
 split
 ·rename_i h
  have := (s[i.toNat]'h).toNat_lt
  omega
 ·omega
def nums (k : IntKind) (xs : List Int) : List Value := xs.map fun x => .int k x
theorem nums_length (k : IntKind) (xs : List Int) : (nums k xs).length = xs.length := by simp [nums]
theorem pw_below_drewN {B : Nat} {w W : World} (h : Below B w W) (n : Nat) : Below B w (W.drewN n) := ⟨h.os, h.tape, h.output, h.size, h.block⟩
theorem grown_of_below {w w1 : World} (h : Below w.heap.size w w1) (row : Option Nat) : w.grownBy w1 row := ⟨h.os, h.tape, h.output, h.size, fun i hi _ => h.block i hi⟩
theorem pw_cell_below {w w1 : World} (h : Below w.heap.size w w1) {a : Addr} {v : Value} (hc : w.cell? a = some v) : w1.cell? a = some v := (h.cell (World.block_lt_of_cell? w a hc)).trans hc
theorem add_plain (g j : Nat) : (⟨g, 0, none⟩ : Addr).add j = ⟨g, j, none⟩ := by unfold Addr.add; split <;> simp_all
theorem own_nil (W : World) (base : Nat) (e : TypeId) (size : Nat) : W.ownsRow base e size (.slice none 0 0) 0 [] := ⟨by simp, .inl ⟨rfl, rfl⟩⟩
theorem own_base {w : World} {base : Nat} {e : TypeId} {size n : Nat} {v : Value} {xs : List Value} (h : w.ownsRow base e size v n xs) (k : Nat) (hk : v.ownBlock = some k) : base ≤ k := by
 rcases h.2 with ⟨rfl, _⟩ | ⟨g, cap, cur, rfl, hb, _⟩
 ·simp [Value.ownBlock] at hk
 ·have : g = k := by simpa [Value.ownBlock] using hk
  omega
theorem own_lt {w : World} {base : Nat} {e : TypeId} {size n : Nat} {v : Value} {xs : List Value} (h : w.ownsRow base e size v n xs) (k : Nat) (hk : v.ownBlock = some k) : k < w.heap.size := by
 rcases h.2 with ⟨rfl, _⟩ | ⟨g, cap, cur, rfl, hb, hh, _⟩
 ·simp [Value.ownBlock] at hk
 ·have : g = k := by simpa [Value.ownBlock] using hk
  subst this
  exact (Array.getElem?_eq_some_iff.1 hh).1
theorem pw_own_below {w w1 : World} {base : Nat} {e : TypeId} {size n : Nat} {v : Value} {xs : List Value} (h : w.ownsRow base e size v n xs) (hb : Below w.heap.size w w1) : w1.ownsRow base e size v n xs :=
 h.kept (grown_of_below hb none) (by cases v.ownBlock <;> simp)
theorem own_other {w w1 : World} {base : Nat} {e : TypeId} {size n : Nat} {v : Value} {xs : List Value} (h : w.ownsRow base e size v n xs) {row : Option Nat} (hg : w.grownBy w1 row) (hne : v.ownBlock = none ∨ v.ownBlock ≠ row) : w1.ownsRow base e size v n xs := h.kept hg hne
theorem own_slice {w : World} {base n : Nat} {e : TypeId} {size : Nat} {v : Value} {xs : List Value} (h : w.ownsRow base e size v n xs) : ∃ A c, v = .slice A n c := by
 rcases h.2 with ⟨rfl, rfl⟩ | ⟨g, cap, cur, rfl, _⟩
 ·exact ⟨none, 0, rfl⟩
 ·exact ⟨_, cap, rfl⟩
theorem own_string {P : Program} {w : World} {base n : Nat} {e' src dst e : TypeId} {v : Value} {xs : List Int} (hs : P.underlying src = some (.slice e)) (he : P.underlying e = some (.int .u8)) (hd : P.underlying dst = some .string)
  (h : w.ownsRow base e' 1 v n (nums .u8 xs)) : (convert src dst v).run P w = .ok (.string (strOfNums xs)) w := by
 have hl : xs.length = n := by have := h.1; simp [nums] at this; exact this
 rcases h.2 with ⟨rfl, rfl⟩ | ⟨g, cap, cur, rfl, _⟩
 ·obtain rfl : xs = [] := List.eq_nil_of_length_eq_zero hl
  exact run_convert_bytes_nil w src e hs he 0 0 dst hd
 ·refine run_convert_bytes_arg w src e hs he g 0 n cap xs hl (fun i hi => ?_) dst hd
  have hc := h.cells (g := g) rfl i (.int .u8 (xs.getD i 0)) (by simp [nums, List.getElem?_eq_getElem (show i < xs.length by omega), List.getD_eq_getElem?_getD])
  have ha : (⟨g, 0, none⟩ : Addr).add i = ⟨g, 0 + i, none⟩ := by unfold Addr.add; split <;> simp_all
  rwa [ha] at hc
section
variable {P : Program} {ops : Array Oper} {rest : List Oper} {o : Oper} {a : Act} {Q : Exit → Act → World → Prop}
theorem print_append {w0 W : World} (base : Nat) (hgd : o.guard = none) (s x : Operand) (t e : TypeId) (z : Value) (bytes : Nat)
  (ho : o.op = .call { callee := .builtin .append, args := #[s, x], argTypes := #[t, t] })
  (ht : P.underlying t = some (.slice e)) (hinfo : (P.info? e).map (fun i => (i.zero, i.size, i.bytes)) = some (some z, 1, bytes)) (hz : z.cells.size = 1) (hb0 : 0 < bytes)
  (v : Value) (xs : List Value) (y : Value) (hs : a.eval s = v) (hx : a.eval x = .slice (some ⟨W.heap.size, 0, none⟩) 1 1) (h1 : y.oneCell' = true)
  (HO : W.ownsRow base e 1 v xs.length xs) (HB : Below base w0 W) (hbase : base ≤ W.heap.size) (hl : (xs.length + 1) * bytes ≤ 140737488355328)
  (h : ∀ v1 w1, w1.ownsRow base e 1 v1 (xs ++ [y]).length (xs ++ [y]) → Below base w0 w1 → W.grownBy w1 v.ownBlock → (v1.ownBlock = v.ownBlock ∨ ∃ b, v1.ownBlock = some b ∧ W.heap.size ≤ b) → wpList P ops Q rest (a.put o.dst v1) w1) :
  wpList P ops Q (o :: rest) a (W.alloc (.cells #[y] e)) := by
 obtain ⟨i0, hi, hzz⟩ := Option.map_eq_some_iff.1 hinfo
 simp only [Prod.mk.injEq] at hzz
 obtain ⟨hz0, hz1, hz2⟩ := hzz
 have hlen : xs.length + 1 ≤ 140737488355328 := Nat.le_trans (Nat.le_mul_of_pos_right _ hb0) hl
 refine wpList_append_own_at (W.alloc (.cells #[y] e)) hgd s x t ho base e i0 z 1 bytes ht hi hz0 hz1 hz2 hz (by omega) v xs.length xs hs (HO.alloc _) ⟨W.heap.size, 0, none⟩ 1 1 [y] hx rfl
  (World.news_of_block (cs := #[y]) (t := e) (fr := (0, 0)) (heap_alloc_new W _)) (by simpa using h1) (by simp only [maxLen]; omega) hl (by simp; omega) ?_
 intro v1 w1 hown hg _ hat
 refine h v1 w1 (by simpa using hown) ((HB.alloc hbase _).grown hg (by simp; omega) (own_base HO)) (World.grownBy.trans (World.grownBy_alloc W _ _) hg) ?_
 rcases hat with hat | hat
 ·exact .inl hat
 ·exact .inr ⟨_, hat, by simp⟩
theorem print_append_num {w0 W : World} (base : Nat) (hgd : o.guard = none) (s x : Operand) (t e : TypeId) (k : IntKind) (bytes : Nat)
  (ho : o.op = .call { callee := .builtin .append, args := #[s, x], argTypes := #[t, t] })
  (ht : P.underlying t = some (.slice e)) (hinfo : (P.info? e).map (fun i => (i.zero, i.size, i.bytes)) = some (some (.int k 0), 1, bytes)) (hb0 : 0 < bytes)
  (v : Value) (xs : List Int) (y : Int) (hs : a.eval s = v) (hx : a.eval x = .slice (some ⟨W.heap.size, 0, none⟩) 1 1)
  (HO : W.ownsRow base e 1 v xs.length (nums k xs)) (HB : Below base w0 W) (hbase : base ≤ W.heap.size) (hl : (xs.length + 1) * bytes ≤ 140737488355328)
  (h : ∀ v1 w1, w1.ownsRow base e 1 v1 (xs ++ [y]).length (nums k (xs ++ [y])) → Below base w0 w1 → W.grownBy w1 v.ownBlock → (v1.ownBlock = v.ownBlock ∨ ∃ b, v1.ownBlock = some b ∧ W.heap.size ≤ b) → wpList P ops Q rest (a.put o.dst v1) w1) :
  wpList P ops Q (o :: rest) a (W.alloc (.cells #[.int k y] e)) :=
 print_append base hgd s x t e (.int k 0) bytes ho ht hinfo rfl hb0 v (nums k xs) (.int k y) hs hx rfl (by rw [nums_length]; exact HO) HB hbase (by rw [nums_length]; exact hl)
  fun v1 w1 hown hB hg hat => h v1 w1 (by simpa [nums] using hown) hB hg hat
end
section
variable {P : Program}
end
theorem own_at {W : World} {base g n cap : Nat} {e : TypeId} {k : IntKind} {xs : List Int} (h : W.ownsRow base e 1 (.slice (some ⟨g, 0, none⟩) n cap) n (nums k xs)) (i : Int) (h0 : 0 ≤ i) (h1 : i < n) :
  W.cell? ⟨g, i.toNat, none⟩ = some (.int k (rd xs i)) ∧ W.frozen? ⟨g, i.toNat, none⟩ = false := by
 have hl : xs.length = n := by have := h.1; simp [nums] at this; exact this
 constructor
 ·have hc := h.cells (g := g) rfl i.toNat (.int k (rd xs i)) (by simp [nums, rd, List.getElem?_eq_getElem (show i.toNat < xs.length by omega), List.getD_eq_getElem?_getD])
  rwa [add_plain] at hc
 ·rcases h.2 with ⟨h', _⟩ | ⟨g', cap', cur, h', _, hh, _⟩
  ·cases h'
  ·have : g = g' := by injection h' with h'; injection h' with h'; injection h' with h'
   subst this
   simp [World.frozen?, hh]
theorem own_store {W : World} {base g n cap : Nat} {e : TypeId} {k : IntKind} {xs : List Int} (h : W.ownsRow base e 1 (.slice (some ⟨g, 0, none⟩) n cap) n (nums k xs)) (i x : Int) :
  (W.setCell ⟨g, i.toNat, none⟩ (.int k x)).ownsRow base e 1 (.slice (some ⟨g, 0, none⟩) n cap) n (nums k (xs.set i.toNat x)) ∧ W.grownBy (W.setCell ⟨g, i.toNat, none⟩ (.int k x)) (some g) := by
 have hs := h.stored i.toNat (.int k x)
 have he : (nums k xs).set i.toNat (.int k x) = nums k (xs.set i.toNat x) := by simp [nums, List.map_set]
 rwa [he] at hs
section
variable {P : Program} {ops : Array Oper} {rest : List Oper} {o : Oper} {a : Act} {Q : Exit → Act → World → Prop}
end
def LeO {α : Type} (a b : Option α) : Prop := ∀ r, a = some r → b = some r
theorem LeO.refl {α : Type} (a : Option α) : LeO a a := fun _ h => h
theorem LeO.none {α : Type} (b : Option α) : LeO Option.none b := fun _ h => by cases h
theorem LeO.trans {α : Type} {a b c : Option α} (h : LeO a b) (k : LeO b c) : LeO a c := fun r hr => k r (h r hr)
theorem LeO.ite {α : Type} {c : Prop} [Decidable c] {a a' b b' : Option α} (h : LeO a a') (k : LeO b b') : LeO (if c then a else b) (if c then a' else b') := by
 split
 ·exact h
 ·exact k
theorem LeO.bind {α β : Type} {a a' : Option α} {f f' : α → Option β} (h : LeO a a') (k : ∀ x, LeO (f x) (f' x)) : LeO (a.bind f) (a'.bind f') := by
 intro r hr
 obtain ⟨x, hx, hf⟩ := Option.bind_eq_some_iff.1 hr
 exact Option.bind_eq_some_iff.2 ⟨x, h x hx, k x r hf⟩
theorem LeO.map {α β : Type} {a a' : Option α} (f : α → β) (h : LeO a a') : LeO (a.map f) (a'.map f) := by
 intro r hr
 obtain ⟨x, hx, hf⟩ := Option.map_eq_some_iff.1 hr
 exact Option.map_eq_some_iff.2 ⟨x, h x hx, hf⟩
def Reps {α : Type} (R : α → List Value → Prop) (size : Nat) (ps : List α) (cs : List Value) : Prop :=
 cs.length = ps.length * size ∧ ∀ j p, ps[j]? = some p → R p ((cs.drop (j * size)).take size)
theorem Reps.none {α : Type} (R : α → List Value → Prop) (size : Nat) : Reps R size [] [] := ⟨by simp, fun j p h => by simp at h⟩
theorem Reps.snoc {α : Type} {R : α → List Value → Prop} {size : Nat} {ps : List α} {cs c : List Value} {p : α} (h : Reps R size ps cs) (hp : R p c) (hc : c.length = size) : Reps R size (ps ++ [p]) (cs ++ c) := by
 refine ⟨by rw [List.length_append, h.1, hc, List.length_append, List.length_singleton, Nat.add_mul, Nat.one_mul], fun j q hq => ?_⟩
 rcases Nat.lt_or_ge j ps.length with hj | hj
 ·rw [List.getElem?_append_left hj] at hq
  have h1 : j * size + size ≤ cs.length := by rw [h.1, ← Nat.succ_mul]; exact Nat.mul_le_mul_right _ hj
  have h2 := h.2 j q hq
  rw [List.drop_append_of_le_length (by omega), List.take_append_of_le_length (by rw [List.length_drop]; omega)]
  exact h2
 ·have hj' : j = ps.length := by
   have := (List.getElem?_eq_some_iff.1 hq).1
   rw [List.length_append, List.length_singleton] at this
   omega
  subst hj'
  have hq' : p = q := by simpa using hq
  subst hq'
  rw [← h.1, List.drop_left, ← hc, List.take_length]
  exact hp
theorem Reps.imp_ {α : Type} {R R' : α → List Value → Prop} {size : Nat} {ps : List α} {cs : List Value} (h : Reps R size ps cs) (hR : ∀ p c, R p c → R' p c) : Reps R' size ps cs := ⟨h.1, fun j p hj => hR _ _ (h.2 j p hj)⟩
def ReadsRow {α : Type} (R : α → List Value → Prop) (size : Nat) (w : World) (A : Option Addr) (n : Nat) (ps : List α) : Prop :=
 ps.length = n ∧ n ≤ 9223372036854775807 ∧ (0 < n → ∃ ad, A = some ad ∧ ∀ j p, ps[j]? = some p → ∃ c, c.length = size ∧ R p c ∧ ∀ i u, c[i]? = some u → w.cell? (ad.add (j * size + i)) = some u)
theorem ReadsRow.imp_ {α : Type} {R R' : α → List Value → Prop} {size : Nat} {w w1 : World} {A : Option Addr} {n : Nat} {ps : List α} (h : ReadsRow R size w A n ps) (hb : Below w.heap.size w w1) (hR : ∀ p c, R p c → R' p c) : ReadsRow R' size w1 A n ps :=
 ⟨h.1, h.2.1, fun hn => by
  obtain ⟨ad, e, hc⟩ := h.2.2 hn
  refine ⟨ad, e, fun j p hj => ?_⟩
  obtain ⟨c, hs, hr, hcell⟩ := hc j p hj
  exact ⟨c, hs, hR _ _ hr, fun i u hu => pw_cell_below hb (hcell i u hu)⟩⟩
theorem own_reads_row {α : Type} {R : α → List Value → Prop} {w : World} {base n size : Nat} {e : TypeId} {v : Value} {ps : List α} {cs : List Value} (h : w.ownsRow base e size v n cs) (hR : Reps R size ps cs) (hn : ps.length = n) :
  ∃ A c, v = .slice A n c ∧ ReadsRow R size w A n ps := by
 rcases Nat.eq_zero_or_pos n with h0 | h0
 ·rcases h.2 with ⟨rfl, rfl⟩ | ⟨g, cap, cur, rfl, _⟩
  ·exact ⟨none, 0, rfl, hn, by omega, fun hp => absurd hp (by omega)⟩
  ·exact ⟨_, cap, rfl, hn, by omega, fun hp => absurd hp (by omega)⟩
 ·obtain ⟨g, cap, rfl, _, _⟩ := h.form h0
  have hm : n ≤ 9223372036854775807 := by
   rcases h.2 with ⟨_, h1⟩ | ⟨g', cap', cur, he, _, _, h1, h2, _⟩
   ·omega
   ·simp only [maxLen] at h2
    omega
  refine ⟨_, cap, rfl, hn, hm, fun _ => ⟨_, rfl, fun j p hj => ⟨(cs.drop (j * size)).take size, ?_, hR.2 j p hj, fun i u hu => ?_⟩⟩⟩
  ·have hjl := (List.getElem?_eq_some_iff.1 hj).1
   have h1 : j * size + size ≤ cs.length := by rw [hR.1, ← Nat.succ_mul]; exact Nat.mul_le_mul_right _ hjl
   rw [List.length_take, List.length_drop]
   omega
  ·refine h.cells (g := g) rfl _ u ?_
   rw [List.getElem?_take] at hu
   split at hu
   ·rw [List.getElem?_drop] at hu
    exact hu
   ·cases hu
theorem add_field (ad : Addr) (m j : Nat) (hj : 0 < j) : ad.add (m + j) = ⟨(ad.add m).block, (ad.add m).off + j, none⟩ := by
 unfold Addr.add
 by_cases hm : m = 0
 ·subst hm
  simp [Nat.ne_of_gt hj]
 ·simp [hm, Nat.add_assoc]
section
variable {P : Program} {ops : Array Oper} {rest : List Oper} {o : Oper} {a : Act} {Q : Exit → Act → World → Prop}
theorem print_append_cells {w0 W : World} (base : Nat) (hgd : o.guard = none) (s x : Operand) (t e : TypeId) (z : Value) (size bytes : Nat)
  (ho : o.op = .call { callee := .builtin .append, args := #[s, x], argTypes := #[t, t] })
  (ht : P.underlying t = some (.slice e)) (hinfo : (P.info? e).map (fun i => (i.zero, i.size, i.bytes)) = some (some z, size, bytes)) (hz : z.cells.size = size) (hs0 : 0 < size) (hb0 : 0 < bytes)
  (v : Value) (n : Nat) (xs ys : List Value) (hs : a.eval s = v) (hx : a.eval x = .slice (some ⟨W.heap.size, 0, none⟩) 1 1) (hys : ys.length = size) (h1 : ∀ u ∈ ys, u.oneCell' = true)
  (HO : W.ownsRow base e size v n xs) (HB : Below base w0 W) (hbase : base ≤ W.heap.size) (hl : (n + 1) * bytes ≤ 140737488355328)
  (h : ∀ v1 w1, w1.ownsRow base e size v1 (n + 1) (xs ++ ys) → Below base w0 w1 → W.grownBy w1 v.ownBlock → (v1.ownBlock = v.ownBlock ∨ ∃ b, v1.ownBlock = some b ∧ W.heap.size ≤ b) → wpList P ops Q rest (a.put o.dst v1) w1) :
  wpList P ops Q (o :: rest) a (W.alloc (.cells ys.toArray e)) := by
 obtain ⟨i0, hi, hzz⟩ := Option.map_eq_some_iff.1 hinfo
 simp only [Prod.mk.injEq] at hzz
 obtain ⟨hz0, hz1, hz2⟩ := hzz
 have hlen : n + 1 ≤ 140737488355328 := Nat.le_trans (Nat.le_mul_of_pos_right _ hb0) hl
 refine wpList_append_own_at (W.alloc (.cells ys.toArray e)) hgd s x t ho base e i0 z size bytes ht hi hz0 hz1 hz2 hz hs0 v n xs hs (HO.alloc _) ⟨W.heap.size, 0, none⟩ 1 1 ys hx (by rw [hys]; simp)
  (by simpa using World.news_of_block (cs := ys.toArray) (t := e) (fr := (0, 0)) (heap_alloc_new W (.cells ys.toArray e))) h1 (by simp only [maxLen]; omega) hl (by simp; omega) ?_
 intro v1 w1 hown hg _ hat
 refine h v1 w1 hown ((HB.alloc hbase _).grown hg (by simp; omega) (own_base HO)) (World.grownBy.trans (World.grownBy_alloc W _ _) hg) ?_
 rcases hat with hat | hat
 ·exact .inl hat
 ·exact .inr ⟨_, hat, by simp⟩
end
theorem own_ne {w : World} {base : Nat} {e t : TypeId} {size n g : Nat} {v : Value} {xs : List Value} {cs : Array Value} (h : w.ownsRow base e size v n xs) (hg : w.heap[g]? = some (.cells cs t (0, 0))) (hne : e ≠ t) : some g ≠ v.ownBlock := by
 rcases h.2 with ⟨rfl, _⟩ | ⟨g', cap, cur, rfl, _, hh, _⟩
 ·simp [Value.ownBlock]
 ·intro he
  have : g = g' := by simpa [Value.ownBlock] using he
  subst this
  rw [hg] at hh
  injection hh with hh
  injection hh with _ ht
  exact hne ht.symm
theorem own_setCell {w : World} {base : Nat} {e : TypeId} {size n : Nat} {v : Value} {xs : List Value} (h : w.ownsRow base e size v n xs) {p : Addr} (hne : some p.block ≠ v.ownBlock) (u : Value) : (w.setCell p u).ownsRow base e size v n xs := by
 obtain ⟨h1, h2⟩ := h
 refine ⟨h1, ?_⟩
 rcases h2 with h2 | ⟨g, cap, cur, rfl, hg, hh, r⟩
 ·exact .inl h2
 ·exact .inr ⟨g, cap, cur, rfl, hg, by rw [Below.heap_setCell _ _ _ _ (fun e => hne (by rw [e]; rfl))]; exact hh, r⟩
theorem blk_set {w : World} {g : Nat} {t : TypeId} {cs : Array Value} (h : w.heap[g]? = some (.cells cs t (0, 0))) (i : Nat) (u : Value) : (w.setCell ⟨g, i, none⟩ u).heap[g]? = some (.cells (cs.setIfInBounds i u) t (0, 0)) := by
 simp [World.setCell, Array.getElem?_modify, h]
theorem blk_far {w : World} {g : Nat} {t : TypeId} {cs : Array Value} (h : w.heap[g]? = some (.cells cs t (0, 0))) {p : Addr} (hp : g ≠ p.block) (u : Value) : (w.setCell p u).heap[g]? = some (.cells cs t (0, 0)) := (Below.heap_setCell w p u g hp).trans h
theorem blk_lt {w : World} {g : Nat} {o : Obj} (h : w.heap[g]? = some o) : g < w.heap.size := (Array.getElem?_eq_some_iff.1 h).1
theorem blk_cell {w : World} {g : Nat} {t : TypeId} {cs : Array Value} (h : w.heap[g]? = some (.cells cs t (0, 0))) (i : Nat) : w.cell? ⟨g, i, none⟩ = cs[i]? := cell_of_row w g i cs t (0, 0) h
theorem blk_frozen {w : World} {g : Nat} {t : TypeId} {cs : Array Value} (h : w.heap[g]? = some (.cells cs t (0, 0))) (i : Nat) : w.frozen? ⟨g, i, none⟩ = false := by simp [World.frozen?, h]
theorem blk_grown {w w1 : World} {g : Nat} {o : Obj} {row : Option Nat} (h : w.heap[g]? = some o) (hg : w.grownBy w1 row) (hne : some g ≠ row) : w1.heap[g]? = some o := (hg.block g (blk_lt h) hne).trans h
def KeepBut (w w' : World) (g : Nat) (row : Option Nat) : Prop := w.heap.size ≤ w'.heap.size ∧ ∀ i, i < w.heap.size → i ≠ g → some i ≠ row → w'.heap[i]? = w.heap[i]?
theorem KeepBut.refl (w : World) (g : Nat) (row : Option Nat) : KeepBut w w g row := ⟨Nat.le_refl _, fun _ _ _ _ => rfl⟩
theorem KeepBut.of_below {w w1 : World} (h : Below w.heap.size w w1) (g : Nat) (row : Option Nat) : KeepBut w w1 g row := ⟨h.size, fun i hi _ _ => h.block i hi⟩
theorem KeepBut.trans {w w1 w2 : World} {g : Nat} {row row1 : Option Nat} (h : KeepBut w w1 g row) (k : KeepBut w1 w2 g row1) (hr : row1 = row ∨ ∃ b, row1 = some b ∧ w.heap.size ≤ b) : KeepBut w w2 g row :=
 ⟨Nat.le_trans h.1 k.1, fun i hi hg hn => by
  refine (k.2 i (Nat.lt_of_lt_of_le hi h.1) hg ?_).trans (h.2 i hi hg hn)
  rcases hr with rfl | ⟨b, rfl, hb⟩
  ·exact hn
  ·intro e
   injection e with e
   omega⟩
theorem KeepBut.blk {w w1 : World} {g g' : Nat} {row : Option Nat} {o : Obj} (h : KeepBut w w1 g row) (hb : w.heap[g']? = some o) (hg : g' ≠ g) (hr : some g' ≠ row) : w1.heap[g']? = some o := (h.2 g' (blk_lt hb) hg hr).trans hb
theorem KeepBut.own {w w1 : World} {g : Nat} {row : Option Nat} {base : Nat} {e : TypeId} {size n : Nat} {v : Value} {xs : List Value} (h : KeepBut w w1 g row) (ho : w.ownsRow base e size v n xs) (hg : v.ownBlock ≠ some g) (hr : v.ownBlock = none ∨ v.ownBlock ≠ row) : w1.ownsRow base e size v n xs := by
 obtain ⟨h1, h2⟩ := ho
 refine ⟨h1, ?_⟩
 rcases h2 with h2 | ⟨b, cap, cur, rfl, hb, hh, r⟩
 ·exact .inl h2
 ·refine .inr ⟨b, cap, cur, rfl, hb, h.blk hh ?_ ?_, r⟩
  ·intro e
   exact hg (by rw [← e]; rfl)
  ·rcases hr with hr | hr
   ·simp [Value.ownBlock] at hr
   ·exact hr
section
variable {P : Program} {ops : Array Oper} {o : Oper} {a : Act} {Q : Exit → Act → World → Prop} {K : Act → World → Prop}
theorem step_append_cells {w0 W : World} (base : Nat) (hw : Region.wanted o (yielded ops a.tmps) = true) (s x : Operand) (t e : TypeId) (z : Value) (size bytes : Nat)
  (ho : o.op = .call { callee := .builtin .append, args := #[s, x], argTypes := #[t, t] })
  (ht : P.underlying t = some (.slice e)) (hinfo : (P.info? e).map (fun i => (i.zero, i.size, i.bytes)) = some (some z, size, bytes)) (hz : z.cells.size = size) (hs0 : 0 < size) (hb0 : 0 < bytes)
  (v : Value) (n : Nat) (xs ys : List Value) (hs : a.eval s = v) (hx : a.eval x = .slice (some ⟨W.heap.size, 0, none⟩) 1 1) (hys : ys.length = size) (h1 : ∀ u ∈ ys, u.oneCell' = true)
  (HO : W.ownsRow base e size v n xs) (HB : Below base w0 W) (hbase : base ≤ W.heap.size) (hl : (n + 1) * bytes ≤ 140737488355328)
  (h : ∀ v1 w1, w1.ownsRow base e size v1 (n + 1) (xs ++ ys) → Below base w0 w1 → W.grownBy w1 v.ownBlock → (v1.ownBlock = v.ownBlock ∨ ∃ b, v1.ownBlock = some b ∧ W.heap.size ≤ b) → K (a.put o.dst v1) w1) :
  if Region.wanted o (yielded ops a.tmps) = true then Oper.wp P o a (W.alloc (.cells ys.toArray e)) K Q else K (a.put o.dst undef) (W.alloc (.cells ys.toArray e)) := by
 obtain ⟨i0, hi, hzz⟩ := Option.map_eq_some_iff.1 hinfo
 simp only [Prod.mk.injEq] at hzz
 obtain ⟨hz0, hz1, hz2⟩ := hzz
 have hlen : n + 1 ≤ 140737488355328 := Nat.le_trans (Nat.le_mul_of_pos_right _ hb0) hl
 rw [if_pos hw]
 obtain ⟨v1, w1, hr, hown, hg, _, hat⟩ := run_append_own_at (P := P) (W.alloc (.cells ys.toArray e)) base t o.type e i0 z size bytes ht hi hz0 hz1 hz2 hz hs0 v n xs (HO.alloc _) ⟨W.heap.size, 0, none⟩ 1 1 ys (by rw [hys]; simp)
  (by simpa using World.news_of_block (cs := ys.toArray) (t := e) (fr := (0, 0)) (heap_alloc_new W (.cells ys.toArray e))) h1 (by simp only [maxLen]; omega) hl (by simp; omega)
 unfold Oper.wp execOp
 simp only [ho, resolve, invoke, builtin, Sem.run_bind, Sem.run_pure, Result.andThen_ok, List.map_toArray, List.map_cons, List.map_nil, hs, hx, hr]
 refine h v1 w1 hown ((HB.alloc hbase _).grown hg (by simp; omega) (own_base HO)) (World.grownBy.trans (World.grownBy_alloc W _ _) hg) ?_
 rcases hat with hat | hat
 ·exact .inl hat
 ·exact .inr ⟨_, hat, by simp⟩
end
theorem own_weaken {w : World} {base base' : Nat} {e : TypeId} {size n : Nat} {v : Value} {xs : List Value} (h : w.ownsRow base e size v n xs) (hb : base' ≤ base) : w.ownsRow base' e size v n xs := by
 obtain ⟨h1, h2⟩ := h
 refine ⟨h1, ?_⟩
 rcases h2 with h2 | ⟨g, cap, cur, rfl, hg, r⟩
 ·exact .inl h2
 ·exact .inr ⟨g, cap, cur, rfl, Nat.le_trans hb hg, r⟩
section
variable {α : Type} {enc : α → Value} {d : α}
def encs (enc : α → Value) (xs : List α) : List Value := xs.map enc
def rdOf (d : α) (xs : List α) (i : Int) : α := xs.getD i.toNat d
theorem encs_length (xs : List α) : (encs enc xs).length = xs.length := by simp [encs]
def ReadsOf (enc : α → Value) (d : α) (w : World) (A : Option Addr) (n : Nat) (xs : List α) : Prop :=
 xs.length = n ∧ n ≤ 9223372036854775807 ∧ (0 < n → ∃ ad, A = some ad ∧ ∀ j, j < n → w.cell? (ad.add j) = some (enc (xs.getD j d)))
theorem ReadsOf.at_ {w : World} {A : Option Addr} {n : Nat} {xs : List α} (h : ReadsOf enc d w A n xs) (i : Int) (h0 : 0 ≤ i) (h1 : i < n) : ∃ ad, A = some ad ∧ w.cell? (ad.add i.toNat) = some (enc (rdOf d xs i)) := by
 obtain ⟨ad, e, hc⟩ := h.2.2 (by omega)
 exact ⟨ad, e, hc _ (by omega)⟩
theorem ReadsOf.below {w w1 : World} {A : Option Addr} {n : Nat} {xs : List α} (h : ReadsOf enc d w A n xs) (hb : Below w.heap.size w w1) : ReadsOf enc d w1 A n xs :=
 ⟨h.1, h.2.1, fun hn => by
  obtain ⟨ad, e, hc⟩ := h.2.2 hn
  exact ⟨ad, e, fun j hj => pw_cell_below hb (hc j hj)⟩⟩
theorem ReadsOf.take_ {w : World} {A : Option Addr} {n : Nat} {xs : List α} (h : ReadsOf enc d w A n xs) (i : Nat) (hi : i ≤ n) : ReadsOf enc d w A i (xs.take i) := by
 refine ⟨by rw [List.length_take, h.1]; omega, by have := h.2.1; omega, fun hp => ?_⟩
 obtain ⟨ad, e, hc⟩ := h.2.2 (by omega)
 refine ⟨ad, e, fun j hj => ?_⟩
 rw [hc j (by omega)]
 simp [List.getD_eq_getElem?_getD, hj]
end
section
variable {α : Type} {P : Program} {ops : Array Oper} {rest : List Oper} {o : Oper} {a : Act} {Q : Exit → Act → World → Prop}
end
theorem blk_alloc {w : World} {g : Nat} {o : Obj} (h : w.heap[g]? = some o) (o' : Obj) : (w.alloc o').heap[g]? = some o := (Below.heap_alloc w o' g (blk_lt h)).trans h
theorem blk_drewN {w : World} {g : Nat} {o : Obj} (h : w.heap[g]? = some o) (n : Nat) : (w.drewN n).heap[g]? = some o := h
theorem blk_new (w : World) (o : Obj) : (w.alloc o).heap[w.heap.size]? = some o := heap_alloc_new w o
section
variable {P : Program}
theorem results_ct {fn : Func} {p u : Tmp} {ty : TypeId} (h : fn.results = #[.cell p ty, .tmp u]) (tmps : Array Value) (w : World) (g : Nat) (t : TypeId) (cs : Array Value) (fr : Nat × Nat) (d : TypeDesc)
  (hp : tmps.getD p undef = .pointer (some ⟨g, 0, none⟩)) (hg : w.heap[g]? = some (.cells cs t fr))
  (hu : P.underlying ty = some d) (hd : (match d with | .struct _ | .array _ _ => true | _ => false) = true) (hi : (P.info? ty).map (·.size) = some cs.size) :
  (results fn tmps).run P w = .ok (.tuple #[.agg cs, tmps.getD u undef]) w := by
 have hp' : tmps[p]?.getD undef = .pointer (some ⟨g, 0, none⟩) := by simpa using hp
 simp [results, h, hp', asAddr, run_loadVar_row w g t ty cs fr d hg hu hd hi]
end
theorem own_le {w : World} {base n m c size : Nat} {e : TypeId} {A : Option Addr} {xs : List Value} (h : w.ownsRow base e size (.slice A m c) n xs) : m ≤ c := by
 rcases h.2 with ⟨he, _⟩ | ⟨g, cap, cur, he, _, _, hnc, _⟩
 ·injection he with _ h2 h3
  omega
 ·injection he with _ h2 h3
  omega
def OwnRow {α : Type} (R : α → List Value → Prop) (e : TypeId) (size : Nat) (w : World) (base : Nat) (v : Value) (ps : List α) : Prop :=
 ∃ inner, w.ownsRow base e size v ps.length inner ∧ Reps R size ps inner
section
variable {α : Type} {R R' : α → List Value → Prop} {e : TypeId} {size : Nat} {w w1 : World} {base : Nat} {v : Value} {ps : List α}
theorem OwnRow.none_ (R : α → List Value → Prop) (e : TypeId) (size : Nat) (w : World) (base : Nat) : OwnRow R e size w base (.slice none 0 0) [] := ⟨[], own_nil _ _ _ _, Reps.none _ _⟩
theorem OwnRow.imp_ (h : OwnRow R e size w base v ps) (hR : ∀ p c, R p c → R' p c) : OwnRow R' e size w base v ps := by
 obtain ⟨inner, ho, hr⟩ := h
 exact ⟨inner, ho, hr.imp_ hR⟩
theorem OwnRow.below (h : OwnRow R e size w base v ps) (hb : Below w.heap.size w w1) : OwnRow R e size w1 base v ps := by
 obtain ⟨inner, ho, hr⟩ := h
 exact ⟨inner, pw_own_below ho hb, hr⟩
theorem OwnRow.other (h : OwnRow R e size w base v ps) {row : Option Nat} (hg : w.grownBy w1 row) (hne : v.ownBlock = none ∨ v.ownBlock ≠ row) : OwnRow R e size w1 base v ps := by
 obtain ⟨inner, ho, hr⟩ := h
 exact ⟨inner, own_other ho hg hne, hr⟩
theorem OwnRow.keep (h : OwnRow R e size w base v ps) {g : Nat} {t : TypeId} {cells : Array Value} (hb : w.heap[g]? = some (.cells cells t (0, 0))) (ht : e ≠ t) (hk : KeepBut w w1 g none) : OwnRow R e size w1 base v ps := by
 obtain ⟨inner, ho, hr⟩ := h
 exact ⟨inner, hk.own ho (Ne.symm (own_ne ho hb ht)) (by cases v.ownBlock <;> simp), hr⟩
theorem OwnRow.reads (h : OwnRow R e size w base v ps) : ∃ A c, v = .slice A ps.length c ∧ ps.length ≤ c ∧ ReadsRow R size w A ps.length ps := by
 obtain ⟨inner, ho, hr⟩ := h
 obtain ⟨A, c, rfl, hrow⟩ := own_reads_row ho hr rfl
 exact ⟨A, c, rfl, own_le ho, hrow⟩
end
section
variable {P : Program} {ops : Array Oper} {rest : List Oper} {o : Oper} {a : Act} {Q : Exit → Act → World → Prop} {α : Type} {R : α → List Value → Prop}
theorem OwnRow.append {w0 W : World} (base : Nat) (hgd : o.guard = none) (s x : Operand) (t e : TypeId) (z : Value) (size bytes : Nat)
  (ho : o.op = .call { callee := .builtin .append, args := #[s, x], argTypes := #[t, t] })
  (ht : P.underlying t = some (.slice e)) (hinfo : (P.info? e).map (fun i => (i.zero, i.size, i.bytes)) = some (some z, size, bytes)) (hz : z.cells.size = size) (hs0 : 0 < size) (hb0 : 0 < bytes)
  (v : Value) (ps : List α) (p : α) (cs : List Value) (hs : a.eval s = v) (hx : a.eval x = .slice (some ⟨W.heap.size, 0, none⟩) 1 1) (hp : R p cs) (hcs : cs.length = size) (h1 : ∀ u ∈ cs, u.oneCell' = true)
  (HO : OwnRow R e size W base v ps) (HB : Below base w0 W) (hbase : base ≤ W.heap.size) (hl : (ps.length + 1) * bytes ≤ 140737488355328)
  (h : ∀ v1 w1, OwnRow R e size w1 base v1 (ps ++ [p]) → Below base w0 w1 → W.grownBy w1 v.ownBlock → (v1.ownBlock = v.ownBlock ∨ ∃ b, v1.ownBlock = some b ∧ W.heap.size ≤ b) → wpList P ops Q rest (a.put o.dst v1) w1) :
  wpList P ops Q (o :: rest) a (W.alloc (.cells cs.toArray e)) := by
 obtain ⟨inner, hown, hr⟩ := HO
 refine print_append_cells base hgd s x t e z size bytes ho ht hinfo hz hs0 hb0 v ps.length inner cs hs hx hcs h1 hown HB hbase hl ?_
 intro v1 w1 hown1 hb1 hg1 hat1
 exact h v1 w1 ⟨inner ++ cs, by rw [List.length_append, List.length_singleton]; exact hown1, hr.snoc hp hcs⟩ hb1 hg1 hat1
end
section
variable {P : Program} {ops : Array Oper} {o : Oper} {a : Act} {Q : Exit → Act → World → Prop} {K : Act → World → Prop} {α : Type} {R : α → List Value → Prop}
end
section
variable {α : Type} {P : Program}
end
section
variable {P : Program} {ops : Array Oper} {rest : List Oper} {o : Oper} {a : Act} {Q : Exit → Act → World → Prop}
end
structure Kd (α : Type) where
 sz : Nat
 E : List Nat
 K : World → α → List Value → Prop
 M : World → Nat → (Nat → Prop) → α → List Value → Prop
 K_len : ∀ {w x cs}, K w x cs → cs.length = sz
 K_one : ∀ {w x cs}, K w x cs → ∀ u ∈ cs, u.oneCell' = true
 K_below : ∀ {w w1 : World} {x cs}, Below w.heap.size w w1 → K w x cs → K w1 x cs
 K_of_M : ∀ {w base ok x cs}, M w base ok x cs → K w x cs
 M_mono : ∀ {w base ok ok' x cs}, (∀ k, ok k → ok' k) → M w base ok x cs → M w base ok' x cs
 M_bound : ∀ {w : World} {base ok x cs}, M w base ok x cs → M w base (fun k => ok k ∧ base ≤ k ∧ k < w.heap.size ∧ ∃ q, q ∈ E ∧ ∃ cells, w.heap[k]? = some (.cells cells q (0, 0))) x cs
 M_move : ∀ {w w1 : World} {base ok x cs}, (∀ k, ok k → w1.heap[k]? = w.heap[k]?) → M w base ok x cs → M w1 base ok x cs
 M_lower : ∀ {w base base' ok x cs}, base' ≤ base → M w base ok x cs → M w base' ok x cs
theorem own_move {w w1 : World} {base : Nat} {e : TypeId} {size n : Nat} {v : Value} {xs : List Value} (h : w.ownsRow base e size v n xs) (hm : ∀ k, v.ownBlock = some k → w1.heap[k]? = w.heap[k]?) : w1.ownsRow base e size v n xs := by
 obtain ⟨h1, h2⟩ := h
 refine ⟨h1, ?_⟩
 rcases h2 with h2 | ⟨g, cap, cur, rfl, hg, hh, r⟩
 ·exact .inl h2
 ·exact .inr ⟨g, cap, cur, rfl, hg, (hm g (by simp [Value.ownBlock])).trans hh, r⟩
theorem own_typed {w : World} {base : Nat} {e : TypeId} {size n : Nat} {v : Value} {xs : List Value} (h : w.ownsRow base e size v n xs) (k : Nat) (hk : v.ownBlock = some k) : ∃ cells, w.heap[k]? = some (.cells cells e (0, 0)) := by
 rcases h.2 with ⟨rfl, _⟩ | ⟨g, cap, cur, rfl, hg, hh, r⟩
 ·simp [Value.ownBlock] at hk
 ·have : g = k := by simpa [Value.ownBlock] using hk
  subst this
  exact ⟨cur, hh⟩
namespace Kd
def C {α : Type} (d : Kd α) (w : World) (A : Option Addr) (n : Nat) (xs : List α) : Prop := ReadsRow (d.K w) d.sz w A n xs
def R {α : Type} (d : Kd α) (e : Nat) (w : World) (base : Nat) (ok : Nat → Prop) (v : Value) (xs : List α) : Prop :=
 (∀ k, v.ownBlock = some k → ok k) ∧ OwnRow (d.M w base (fun k => ok k ∧ some k ≠ v.ownBlock)) e d.sz w base v xs
section
variable {α : Type} {d : Kd α} {e : Nat} {w w1 : World} {base : Nat} {ok ok' : Nat → Prop} {v : Value} {xs : List α}
theorem C_below {A : Option Addr} {n : Nat} (h : d.C w A n xs) (hb : Below w.heap.size w w1) : d.C w1 A n xs := ReadsRow.imp_ h hb (fun _ _ hp => d.K_below hb hp)
theorem R_nil (d : Kd α) (e : Nat) (w : World) (base : Nat) (ok : Nat → Prop) : d.R e w base ok (.slice none 0 0) [] := ⟨fun k hk => by simp [Value.ownBlock] at hk, OwnRow.none_ _ _ _ _ _⟩
theorem R_mono (h : d.R e w base ok v xs) (hok : ∀ k, ok k → ok' k) : d.R e w base ok' v xs := ⟨fun k hk => hok k (h.1 k hk), h.2.imp_ (fun _ _ hp => d.M_mono (fun k hk => ⟨hok k hk.1, hk.2⟩) hp)⟩
theorem R_bound (h : d.R e w base ok v xs) : d.R e w base (fun k => ok k ∧ base ≤ k ∧ k < w.heap.size ∧ ∃ q, q ∈ e :: d.E ∧ ∃ cells, w.heap[k]? = some (.cells cells q (0, 0))) v xs := by
 obtain ⟨h0, inner, ho, hr⟩ := h
 refine ⟨fun k hk => ?_, inner, ho, hr.imp_ (fun _ _ hp => d.M_mono (fun k hk => ?_) (d.M_bound hp))⟩
 ·obtain ⟨cells, hc⟩ := own_typed ho k hk
  exact ⟨h0 k hk, own_base ho k hk, own_lt ho k hk, e, List.mem_cons_self, cells, hc⟩
 ·obtain ⟨⟨h1, h2⟩, h3, h4, q, hq, hc⟩ := hk
  exact ⟨⟨h1, h3, h4, q, List.mem_cons_of_mem _ hq, hc⟩, h2⟩
theorem R_move (h : d.R e w base ok v xs) (hm : ∀ k, ok k → w1.heap[k]? = w.heap[k]?) : d.R e w1 base ok v xs := by
 obtain ⟨h0, inner, ho, hr⟩ := h
 exact ⟨h0, inner, own_move ho (fun k hk => hm k (h0 k hk)), hr.imp_ (fun _ _ hp => d.M_move (fun k hk => hm k hk.1) hp)⟩
theorem R_lower {base' : Nat} (h : d.R e w base ok v xs) (hb : base' ≤ base) : d.R e w base' ok v xs := by
 obtain ⟨h0, inner, ho, hr⟩ := h
 exact ⟨h0, inner, own_weaken ho hb, hr.imp_ (fun _ _ hp => d.M_lower hb hp)⟩
theorem R_reads (h : d.R e w base ok v xs) : ∃ A c, v = .slice A xs.length c ∧ xs.length ≤ c ∧ d.C w A xs.length xs := by
 obtain ⟨A, c, he, hl, hr⟩ := OwnRow.reads h.2
 exact ⟨A, c, he, hl, hr.imp_ (Below.refl _ _) (fun _ _ hp => d.K_of_M hp)⟩
end
def scalar {α : Type} (enc : α → Value) (h1 : ∀ x, (enc x).oneCell' = true) : Kd α where
 sz := 1
 E := []
 K := fun _ x cs => cs = [enc x]
 M := fun _ _ _ x cs => cs = [enc x]
 K_len := fun h => by rw [h]; rfl
 K_one := fun h u hu => by
  rw [h] at hu
  rw [List.mem_singleton.1 hu]
  exact h1 _
 K_below := fun _ h => h
 K_of_M := fun h => h
 M_mono := fun _ h => h
 M_bound := fun h => h
 M_move := fun _ h => h
 M_lower := fun _ h => h
def int (k : IntKind) : Kd Int := scalar (Value.int k) (fun _ => rfl)
def bool : Kd Bool := scalar Value.bool (fun _ => rfl)
def string : Kd ByteArray := scalar Value.string (fun _ => rfl)
def slice {α : Type} (e : Nat) (d : Kd α) : Kd (List α) where
 sz := 1
 E := e :: d.E
 K := fun w xs cs => ∃ A c, cs = [.slice A xs.length c] ∧ xs.length ≤ c ∧ d.C w A xs.length xs
 M := fun w base ok xs cs => ∃ v, cs = [v] ∧ d.R e w base ok v xs
 K_len := by
  rintro w x cs ⟨A, c, rfl, _⟩
  rfl
 K_one := by
  rintro w x cs ⟨A, c, rfl, _⟩ u hu
  rw [List.mem_singleton.1 hu]
  rfl
 K_below := by
  rintro w w1 x cs hb ⟨A, c, rfl, hl, hr⟩
  exact ⟨A, c, rfl, hl, C_below hr hb⟩
 K_of_M := by
  rintro w base ok x cs ⟨v, rfl, h⟩
  obtain ⟨A, c, rfl, hl, hr⟩ := R_reads h
  exact ⟨A, c, rfl, hl, hr⟩
 M_mono := by
  rintro w base ok ok' x cs hok ⟨v, rfl, h⟩
  exact ⟨v, rfl, R_mono h hok⟩
 M_bound := by
  rintro w base ok x cs ⟨v, rfl, h⟩
  exact ⟨v, rfl, R_bound h⟩
 M_move := by
  rintro w w1 base ok x cs hm ⟨v, rfl, h⟩
  exact ⟨v, rfl, R_move h hm⟩
 M_lower := by
  rintro w base base' ok x cs hb ⟨v, rfl, h⟩
  exact ⟨v, rfl, R_lower h hb⟩
def bot {α : Type} (sz : Nat) (E : List Nat) : Kd α where
 sz := sz
 E := E
 K := fun _ _ _ => False
 M := fun _ _ _ _ _ => False
 K_len := fun h => h.elim
 K_one := fun h => h.elim
 K_below := fun _ h => h
 K_of_M := fun h => h
 M_mono := fun _ h => h
 M_bound := fun h => h
 M_move := fun _ h => h
 M_lower := fun _ h => h
def upto {α : Type} (F : Kd α → Kd α) (sz : Nat) (E : List Nat) : Nat → Kd α
 | 0 => bot sz E
 | n + 1 => F (upto F sz E n)
section
variable {P : Program} {ops : Array Oper} {rest : List Oper} {o : Oper} {a : Act} {Q : Exit → Act → World → Prop} {α : Type}
end
section
variable {P : Program} {ops : Array Oper} {o : Oper} {a : Act} {Q : Exit → Act → World → Prop} {Kc : Act → World → Prop} {α : Type}
end
theorem reps_scalar {α : Type} {enc : α → Value} (xs : List α) : Reps (fun (x : α) (cs : List Value) => cs = [enc x]) 1 xs (encs enc xs) := by
 refine ⟨by simp [encs], fun j p hj => ?_⟩
 obtain ⟨hl, hp⟩ := List.getElem?_eq_some_iff.1 hj
 have hl' : j < (encs enc xs).length := by rw [encs_length]; exact hl
 rw [Nat.mul_one, List.drop_eq_getElem_cons hl']
 simp [encs, hp]
theorem R_of_own {α : Type} {enc : α → Value} {h1 : ∀ x, (enc x).oneCell' = true} {e : Nat} {w : World} {base : Nat} {ok : Nat → Prop} {v : Value} {xs : List α} (ho : w.ownsRow base e 1 v xs.length (encs enc xs)) (hok : ∀ k, v.ownBlock = some k → ok k) : (scalar enc h1).R e w base ok v xs := ⟨hok, encs enc xs, ho, reps_scalar xs⟩
theorem reads_of_C {α : Type} {enc : α → Value} {d : α} {h1 : ∀ x, (enc x).oneCell' = true} {w : World} {A : Option Addr} {n : Nat} {xs : List α} (h : (scalar enc h1).C w A n xs) : ReadsOf enc d w A n xs := by
 refine ⟨h.1, h.2.1, fun hn => ?_⟩
 obtain ⟨ad, e, hc⟩ := h.2.2 hn
 refine ⟨ad, e, fun j hj => ?_⟩
 have hl : j < xs.length := by have := h.1; omega
 obtain ⟨c, _, hK, hcell⟩ := hc j _ (List.getElem?_eq_getElem hl)
 have hK' : c = [enc xs[j]] := hK
 subst hK'
 have := hcell 0 _ rfl
 simpa [scalar, List.getD_eq_getElem?_getD, List.getElem?_eq_getElem hl] using this
end Kd
namespace Kd
section
variable {α : Type} {F : Kd α → Kd α} {sz : Nat} {E : List Nat} {hs : ∀ n, (upto F sz E n).sz = sz} {hE : ∀ n q, q ∈ (upto F sz E n).E → q ∈ E}
end
end Kd
namespace Kd
end Kd
namespace Kd
section
variable {α β : Type} {d : Kd α} {d' : Kd β} {e e' : Nat} {w w1 W : World} {base b b' : Nat} {ok ok' okv oku : Nat → Prop} {v u : Value} {xs : List α} {ys : List β}
end
section
variable {w W : World} {A : Option Addr} {n : Nat}
theorem at_int {k : IntKind} {xs : List Int} (h : (Kd.int k).C w A n xs) (i : Int) (h0 : 0 ≤ i) (h1 : i < n) : ∃ ad, A = some ad ∧ w.cell? (ad.add i.toNat) = some (.int k (rd xs i)) :=
 ReadsOf.at_ (reads_of_C (enc := Value.int k) (d := (0 : Int)) (h1 := fun _ => rfl) h) i h0 h1
variable {α : Type} {enc : α → Value} {h1 : ∀ x, (enc x).oneCell' = true} {e base g cap : Nat} {ok : Nat → Prop} {xs : List α}
end
section
variable {P : Program} {ops : Array Oper} {rest : List Oper} {o : Oper} {a : Act} {Q : Exit → Act → World → Prop}
variable {α : Type}
end
end Kd
section
variable {P : Program}
end
def QRow (w : World) (base : Nat) (e : TypeId) (size : Nat) (v : Value) (n : Nat) (xs : List Value) : Prop :=
  xs.length = n * size ∧
  ((n = 0 ∧ ∃ A, v = .slice A 0 0 ∧ ∀ a, A = some a → base ≤ a.block ∧ ∃ cur, w.heap[a.block]? = some (.cells cur e (0, 0))) ∨
   ∃ g off cap cur, v = .slice (some ⟨g, off * size, none⟩) n cap ∧ base ≤ g ∧ w.heap[g]? = some (.cells cur e (0, 0)) ∧ n ≤ cap ∧ off + cap ≤ maxLen ∧ cur.size = (off + cap) * size ∧ (cur.toList.drop (off * size)).take (n * size) = xs)
section
variable {w w1 : World} {base n size : Nat} {e : TypeId} {v : Value} {xs : List Value}
end
section
variable {P : Program}
end
namespace Kd
def Q {α : Type} (d : Kd α) (e : Nat) (w : World) (base : Nat) (ok : Nat → Prop) (v : Value) (xs : List α) : Prop :=
 (∀ k, v.ownBlock = some k → ok k) ∧ ∃ inner, QRow w base e d.sz v xs.length inner ∧ Reps (d.M w base (fun k => ok k ∧ some k ≠ v.ownBlock)) d.sz xs inner
section
variable {α : Type} {d : Kd α} {e : Nat} {w w1 W : World} {base : Nat} {ok ok' : Nat → Prop} {v : Value} {xs : List α}
end
section
variable {P : Program} {ops : Array Oper} {rest : List Oper} {o : Oper} {a : Act} {Q' : Exit → Act → World → Prop} {Kc : Act → World → Prop} {α : Type}
end
end Kd
namespace Kd
section
variable {α : Type} {d : Kd α} {e e' : Nat} {w w1 W : World} {base : Nat} {ok : Nat → Prop} {u v : Value} {xs : List α}
end
end Kd
namespace Kd
section
variable {α : Type} {d : Kd α} {e base g n cap : Nat} {ok okp : Nat → Prop} {W : World} {xs : List α}
end
end Kd
namespace Kd
section
variable {α : Type} {F : Kd α → Kd α} {sz : Nat} {E : List Nat} {hs : ∀ n, (upto F sz E n).sz = sz} {hE : ∀ n q, q ∈ (upto F sz E n).E → q ∈ E}
end
end Kd
namespace Kd
section
variable {P : Program} {ops : Array Oper} {rest : List Oper} {o : Oper} {a : Act} {Q : Exit → Act → World → Prop} {α : Type}
end
end Kd
namespace Kd
section
variable {P : Program} {ops : Array Oper} {rest : List Oper} {o : Oper} {a : Act} {Q : Exit → Act → World → Prop} {α : Type}
end
end Kd
theorem add_add (a : Addr) (i j : Nat) : (a.add i).add j = a.add (i + j) := by
 unfold Addr.add
 by_cases h1 : i = 0 <;> by_cases h2 : j = 0 <;> simp [h1, h2, Nat.add_assoc]
namespace Kd
section
variable {α : Type} {k : Kd α} {w : World} {A : Option Addr} {xs : List α} {m c : Nat}
end
end Kd
section
variable {P : Program}
end
theorem keep_cell {w W : World} {g : Nat} (h : KeepBut w W g none) {a : Addr} {v : Value} (hc : w.cell? a = some v) (hne : a.block ≠ g) : W.cell? a = some v := by
 have := h.2 a.block (World.block_lt_of_cell? w a hc) hne (by simp)
 simpa [World.cell?, this] using hc
theorem add_block (a : Addr) (i : Nat) : (a.add i).block = a.block := by unfold Addr.add; split <;> rfl
theorem ReadsOf.nil {α : Type} (enc : α → Value) (d : α) (W : World) : ReadsOf enc d W none ([] : List α).length [] := ⟨rfl, by simp, fun h => absurd h (Nat.lt_irrefl 0)⟩
theorem ReadsOf.drewN {α : Type} {enc : α → Value} {d : α} {W : World} {A : Option Addr} {n : Nat} {xs : List α} (h : ReadsOf enc d W A n xs) (m : Nat) : ReadsOf enc d (W.drewN m) A n xs := h
theorem ReadsOf.keep {α : Type} {enc : α → Value} {d : α} {w W : World} {A : Option Addr} {n g : Nat} {xs : List α} (h : ReadsOf enc d w A n xs) (hk : KeepBut w W g none) (hf : ∀ ad, A = some ad → 0 < n → ad.block ≠ g) : ReadsOf enc d W A n xs :=
 ⟨h.1, h.2.1, fun hn => by
  obtain ⟨ad, e, hc⟩ := h.2.2 hn
  exact ⟨ad, e, fun j hj => keep_cell hk (hc j hj) (by rw [add_block]; exact hf ad e hn)⟩⟩
namespace Kd
section
variable {α β : Type} {d : Kd α} {d' : Kd β} {e e' base base' n : Nat} {ok ok' : Nat → Prop} {w W w1 W1 : World} {v u : Value} {xs : List α} {ys : List β} {A : Option Addr} {c : Nat}
end
section
variable {α : Type} {enc : α → Value} {h1 : ∀ x, (enc x).oneCell' = true} {w W : World} {A : Option Addr} {n g : Nat} {xs : List α}
end
end Kd
namespace Kd
section
variable {α : Type} {d : Kd α} {e base g : Nat} {ok : Nat → Prop} {w w1 : World} {v : Value} {xs : List α} {o : Obj}
end
end Kd
section
variable {P : Program} {ops : Array Oper} {rest : List Oper} {o : Oper} {a : Act} {Q : Exit → Act → World → Prop}
end
namespace Kd
section
variable {α : Type} {enc : α → Value} {h1 : ∀ x, (enc x).oneCell' = true} {e base g n cap : Nat} {ok : Nat → Prop} {W : World} {xs : List α}
end
end Kd
section
variable {P : Program} {ops : Array Oper} {rest : List Oper} {o : Oper} {a : Act} {Q : Exit → Act → World → Prop}
end
namespace Kd
section
variable {α : Type} {enc : α → Value} {h1 : ∀ x, (enc x).oneCell' = true} {e base g n cap : Nat} {ok : Nat → Prop} {W : World} {xs : List α}
end
end Kd
section
variable {P : Program} {ops : Array Oper} {rest : List Oper} {o : Oper} {a : Act} {Q : Exit → Act → World → Prop} {W : World}
end
section
variable {P : Program} {ops : Array Oper} {o : Oper} {a : Act} {Q : Exit → Act → World → Prop} {Kc : Act → World → Prop}
namespace Kd
variable {α : Type}
end Kd
end
section
variable {P : Program} {tmps : Array Value} {w : World}
end
namespace Kd
section
variable {P : Program} {α : Type}
end
section
variable {P : Program} {ops : Array Oper} {rest : List Oper} {o : Oper} {a : Act} {Q : Exit → Act → World → Prop} {Kc : Act → World → Prop} {α : Type}
end
end Kd
end Go.Proofs.YtgakmnholegbgaaW.PrintWords
end
section
namespace Go.Proofs.YtgakmnholegbgaaW.PrintLast
section
variable {P : Program} {ops : Array Oper} {Q : Exit → Act → World → Prop} {md : Region.Mode} {S : World → Prop} {ds : List Nat}
def Region.reachB (md : Region.Mode) (ops : Array Oper) (i : Nat) : Nat → Nat → Bool
 | 0, _ => false
 | fuel + 1, d => match ops[d]? with
  | some o => o.after.any fun e => Region.binds md e && (e.on == i || Region.reachB md ops i fuel e.on)
  | none => false
def Region.closedB (md : Region.Mode) (ops : Array Oper) (listed : Array Bool) : Bool :=
 (List.range ops.size).all fun j => !listed.getD j false || match ops[j]? with
  | some o => o.after.all fun e => !Region.binds md e || listed.getD e.on false
  | none => true
def Region.lastB (md : Region.Mode) (ops : Array Oper) (listed : Array Bool) (ds : List Nat) (i : Nat) : Bool :=
 ds.all fun d => listed.getD d true || Region.reachB md ops i ops.size d
def ListedClosed (md : Region.Mode) (ops : Array Oper) (listed : Array Bool) : Prop :=
 ∀ j oj, ops[j]? = some oj → listed.getD j false = true → ∀ e ∈ oj.after, Region.binds md e = true → listed.getD e.on false = true
theorem Region.closedB_spec {listed : Array Bool} (h : Region.closedB md ops listed = true) : ListedClosed md ops listed := by
 intro j oj hj hl e he hb
 have hlt : j < ops.size := (Array.getElem?_eq_some_iff.1 hj).1
 have h1 := List.all_eq_true.1 h j (List.mem_range.2 hlt)
 simp only [hl, hj, Bool.not_true, Bool.false_or] at h1
 have h2 := Array.all_eq_true_iff_forall_mem.1 h1 e he
 simpa [hb] using h2
theorem ListedClosed.set {listed : Array Bool} {i : Nat} (h : ListedClosed md ops listed) (hi : i ∈ Region.ready md ops listed) : ListedClosed md ops (listed.setIfInBounds i true) := by
 obtain ⟨_, oi, hoi, hall⟩ := mem_ready.1 hi
 intro j oj hj hl e he hb
 by_cases hij : i = j
 ·subst hij
  have : oj = oi := Option.some.inj (hj.symm.trans hoi)
  subst this
  exact getD_set_true (hall e he hb)
 ·rw [getD_set_ne false hij] at hl
  exact getD_set_true (h j oj hj hl e he hb)
theorem Region.reach_listed {listed : Array Bool} {i : Nat} (hc : ListedClosed md ops listed) : ∀ (fuel d : Nat), Region.reachB md ops i fuel d = true → listed.getD d false = true → listed.getD i false = true
 | 0, _, h, _ => by simp [Region.reachB] at h
 | fuel + 1, d, h, hl => by
  unfold Region.reachB at h
  cases ho : ops[d]? with
  | none => rw [ho] at h; simp at h
  | some o =>
   rw [ho] at h
   obtain ⟨e, he, h1⟩ := Array.any_eq_true'.1 h
   simp only [Bool.and_eq_true, Bool.or_eq_true, beq_iff_eq] at h1
   have hle := hc d o ho hl e he h1.1
   rcases h1.2 with h2 | h2
   ·rw [← h2]; exact hle
   ·exact Region.reach_listed hc fuel e.on h2 hle
theorem Region.reach_not_ready {listed : Array Bool} {i d fuel : Nat} (hc : ListedClosed md ops listed) (hr : Region.reachB md ops i fuel d = true) (hun : listed.getD i true = false) : d ∉ Region.ready md ops listed := by
 intro hd
 obtain ⟨_, o, ho, hall⟩ := mem_ready.1 hd
 have hi : listed.getD i false = true := by
  cases fuel with
  | zero => simp [Region.reachB] at hr
  | succ n =>
   unfold Region.reachB at hr
   rw [ho] at hr
   obtain ⟨e, he, h1⟩ := Array.any_eq_true'.1 hr
   simp only [Bool.and_eq_true, Bool.or_eq_true, beq_iff_eq] at h1
   have hle := hall e he h1.1
   rcases h1.2 with h2 | h2
   ·rw [← h2]; exact hle
   ·exact Region.reach_listed hc n e.on h2 hle
 rcases Nat.lt_or_ge i listed.size with h' | h'
 ·simp [h'] at hun hi
  rw [hun] at hi
  cases hi
 ·simp [Array.getElem?_eq_none h'] at hun
def wpAnyLast (P : Program) (md : Region.Mode) (ops : Array Oper) (Q : Exit → Act → World → Prop) (S : World → Prop) (ds : List Nat) : Nat → Array Bool → Act → World → Prop
 | 0, listed, a, w => Region.ready md ops listed = [] ∧ Q .normal a w
 | fuel + 1, listed, a, w =>
  (Region.ready md ops listed = [] → Q .normal a w) ∧
  ∀ i ∈ Region.ready md ops listed, wpOp P ops Q i (fun a' w' => (i ∉ ds → S w → S w') ∧ wpAnyLast P md ops Q S ds fuel (listed.setIfInBounds i true) a' w') a w
theorem wpAny_of_last : ∀ (fuel : Nat) (listed : Array Bool) (a : Act) (w : World), wpAnyLast P md ops Q S ds fuel listed a w → wpAny P md ops Q fuel listed a w
 | 0, _, _, _, h => h
 | fuel + 1, _, _, _, h => ⟨h.1, fun i hi => wpOp_mono (fun a' w' h' => wpAny_of_last fuel _ a' w' h'.2) (h.2 i hi)⟩
theorem wpAnyLast_first {i : Nat} {oi : Oper} {v : Value} (hi : ops[i]? = some oi) (hsel : ∀ (j : Nat) (o : Oper) cs b, ops[j]? = some o → o.op ≠ .select cs b)
  (hQ : ∀ c a w, Q (.panic c) (a.put oi.dst v) w → Q (.panic c) a w) (n : Nat) :
  ∀ (fuel : Nat) (listed : Array Bool) (a : Act) (w : World),
   (∀ j oj, ops[j]? = some oj → j ≠ i → listed.getD j true = false → (∀ e ∈ oj.after, Region.binds md e = true → e.on ≠ i) → oi.apart ops oj = true) →
   ListedClosed md ops listed → (∀ d ∈ ds, listed.getD d true = false → Region.reachB md ops i n d = true) →
   i ∈ Region.ready md ops listed → YieldsIf P ops S oi v a → S w →
   wpAnyLast P md ops Q S ds fuel (listed.setIfInBounds i true) (a.put oi.dst v) w → wpAnyLast P md ops Q S ds (fuel + 1) listed a w := by
 intro fuel
 induction fuel with
 | zero =>
  intro listed a w _ _ _ hr hy hS H
  refine ⟨fun h => (by rw [h] at hr; cases hr), fun j hj => ?_⟩
  by_cases hji : j = i
  ·subst hji; exact hy.wpOp hi hS ⟨fun _ h => h, H⟩
  ·have := ready_mono hj hji
   rw [H.1] at this
   cases this
 | succ fuel ih =>
  intro listed a w hfree hc hd hr hy hS H
  refine ⟨fun h => (by rw [h] at hr; cases hr), fun j hj => ?_⟩
  by_cases hji : j = i
  ·subst hji; exact hy.wpOp hi hS ⟨fun _ h => h, H⟩
  ·have h1 := H.2 j (ready_mono hj hji)
   obtain ⟨hjun, oj, hoj, hall⟩ := mem_ready.1 hj
   have hiun := (mem_ready.1 hr).1
   have hnot : ∀ e ∈ oj.after, Region.binds md e = true → e.on ≠ i := fun e he hb heq => by
    have h1 := hall e he hb
    rw [heq] at h1
    rcases Nat.lt_or_ge i listed.size with h' | h'
    ·simp [h'] at hiun h1; rw [hiun] at h1; cases h1
    ·simp [Array.getElem?_eq_none h'] at h1
   have hjd : j ∉ ds := fun hm => Region.reach_not_ready hc (hd j hm hjun) hiun hj
   have h2 := wpOp_putIf hoj (hfree j oj hoj hji hjun hnot) (fun cs b => hsel i oi cs b hi) (fun cs b => hsel j oj cs b hoj) hQ hy h1
   have hfree' : ∀ k ok, ops[k]? = some ok → k ≠ i → (listed.setIfInBounds j true).getD k true = false →
     (∀ e ∈ ok.after, Region.binds md e = true → e.on ≠ i) → oi.apart ops ok = true := fun k ok hk hki hun hno => by
    refine hfree k ok hk hki ?_ hno
    by_cases hjk : j = k
    ·subst hjk; exact hjun
    ·rw [getD_set_ne true hjk] at hun; exact hun
   have hd' : ∀ d ∈ ds, (listed.setIfInBounds j true).getD d true = false → Region.reachB md ops i n d = true := fun d hm hun => by
    refine hd d hm ?_
    by_cases hjk : j = d
    ·subst hjk; exact hjun
    ·rw [getD_set_ne true hjk] at hun; exact hun
   refine wpOp_mono (fun a' w' h3 => ⟨h3.2.1, ih (listed.setIfInBounds j true) a' w' hfree' (hc.set hj) hd' (ready_mono hr (Ne.symm hji)) h3.1 (h3.2.1 hjd hS) ?_⟩) h2
   rw [Array.setIfInBounds_comm _ _ hji]
   exact h3.2.2
theorem wpAnyLast_any {i : Nat} {oi : Oper} {v : Value} (hi : ops[i]? = some oi) (hsel : ∀ (j : Nat) (o : Oper) cs b, ops[j]? = some o → o.op ≠ .select cs b)
  (hQ : ∀ c a w, Q (.panic c) (a.put oi.dst v) w → Q (.panic c) a w) :
  ∀ (fuel : Nat) (listed : Array Bool) (a : Act) (w : World),
   (∀ j oj, ops[j]? = some oj → j ≠ i → listed.getD j true = false → (∀ e ∈ oj.after, Region.binds md e = true → e.on ≠ i) → oi.apart ops oj = true) →
   i ∈ Region.ready md ops listed → Yields P ops oi v a →
   wpAnyLast P md ops Q S ds fuel (listed.setIfInBounds i true) (a.put oi.dst v) w → wpAnyLast P md ops Q S ds (fuel + 1) listed a w := by
 intro fuel
 induction fuel with
 | zero =>
  intro listed a w _ hr hy H
  refine ⟨fun h => (by rw [h] at hr; cases hr), fun j hj => ?_⟩
  by_cases hji : j = i
  ·subst hji; exact (hy.yieldsIf (S := fun _ => True)).wpOp hi trivial ⟨fun _ h => h, H⟩
  ·have := ready_mono hj hji
   rw [H.1] at this
   cases this
 | succ fuel ih =>
  intro listed a w hfree hr hy H
  refine ⟨fun h => (by rw [h] at hr; cases hr), fun j hj => ?_⟩
  by_cases hji : j = i
  ·subst hji; exact (hy.yieldsIf (S := fun _ => True)).wpOp hi trivial ⟨fun _ h => h, H⟩
  ·have h1 := H.2 j (ready_mono hj hji)
   obtain ⟨hjun, oj, hoj, hall⟩ := mem_ready.1 hj
   have hiun := (mem_ready.1 hr).1
   have hnot : ∀ e ∈ oj.after, Region.binds md e = true → e.on ≠ i := fun e he hb heq => by
    have h1 := hall e he hb
    rw [heq] at h1
    rcases Nat.lt_or_ge i listed.size with h' | h'
    ·simp [h'] at hiun h1; rw [hiun] at h1; cases h1
    ·simp [Array.getElem?_eq_none h'] at h1
   have h2 := wpOp_put hoj (hfree j oj hoj hji hjun hnot) (fun cs b => hsel i oi cs b hi) (fun cs b => hsel j oj cs b hoj) hQ hy h1
   have hfree' : ∀ k ok, ops[k]? = some ok → k ≠ i → (listed.setIfInBounds j true).getD k true = false →
     (∀ e ∈ ok.after, Region.binds md e = true → e.on ≠ i) → oi.apart ops ok = true := fun k ok hk hki hun hno => by
    refine hfree k ok hk hki ?_ hno
    by_cases hjk : j = k
    ·subst hjk; exact hjun
    ·rw [getD_set_ne true hjk] at hun; exact hun
   refine wpOp_mono (fun a' w' h3 => ⟨h3.2.1, ih (listed.setIfInBounds j true) a' w' hfree' (ready_mono hr (Ne.symm hji)) h3.1 ?_⟩) h2
   rw [Array.setIfInBounds_comm _ _ hji]
   exact h3.2.2
theorem wpAnyLast_take {i : Nat} {oi : Oper} {v : Value} {fuel : Nat} {listed : Array Bool} {a : Act} {w : World} (hi : ops[i]? = some oi)
  (hs : Region.noSelect ops = true) (hf : Region.free md ops listed i = true) (hr : (Region.ready md ops listed).contains i = true)
  (hc : Region.closedB md ops listed = true) (hl : Region.lastB md ops listed ds i = true)
  (hQ : ∀ c a w, Q (.panic c) (a.put oi.dst v) w → Q (.panic c) a w) (hy : YieldsIf P ops S oi v a) (hS : S w)
  (h : wpAnyLast P md ops Q S ds fuel (listed.setIfInBounds i true) (a.put oi.dst v) w) : wpAnyLast P md ops Q S ds (fuel + 1) listed a w :=
 wpAnyLast_first hi (Region.noSelect_spec hs) hQ ops.size fuel listed a w (Region.free_spec hi hf) (Region.closedB_spec hc)
  (fun d hm hun => by have := List.all_eq_true.1 hl d hm; rw [hun] at this; simpa using this) (by simpa using hr) hy hS h
theorem wpAnyLast_all {rs : List Nat} {fuel : Nat} {listed : Array Bool} {a : Act} {w : World} (hr : Region.ready md ops listed = rs) (hne : rs ≠ [])
  (h : ∀ i ∈ rs, wpOp P ops Q i (fun a' w' => (i ∉ ds → S w → S w') ∧ wpAnyLast P md ops Q S ds fuel (listed.setIfInBounds i true) a' w') a w) : wpAnyLast P md ops Q S ds (fuel + 1) listed a w :=
 ⟨fun h0 => absurd (hr ▸ h0) hne, hr ▸ h⟩
theorem wpAnyLast_done {listed : Array Bool} {a : Act} {w : World} (hr : Region.ready md ops listed = []) (h : Q .normal a w) :
  ∀ fuel, wpAnyLast P md ops Q S ds fuel listed a w
 | 0 => ⟨hr, h⟩
 | _ + 1 => ⟨fun _ => h, by rw [hr]; simp⟩
theorem wp_region_last {id : Nat} {a : Act} {w : World} (hm : P.follows .mixedOrders = true)
  (h : wpAnyLast P .any ops Q S ds ops.size (Array.replicate ops.size false) a { w with drawn := w.drawn + 1 }) : (Code.region id ops true).wp P Q a w :=
 wp_region_any hm (wpAny_of_last _ _ _ _ h)
end
section
variable {P : Program} {ops : Array Oper} {Q : Exit → Act → World → Prop} {md : Region.Mode} {S : World → Prop} {ds : List Nat}
def AllReadyL (P : Program) (md : Region.Mode) (ops : Array Oper) (Q : Exit → Act → World → Prop) (S : World → Prop) (ds : List Nat) (fuel : Nat) (listed : Array Bool) (a : Act) (w : World) (rs : List Nat) : Prop :=
 ∀ i ∈ rs, wpOp P ops Q i (fun a' w' => (i ∉ ds → S w → S w') ∧ wpAnyLast P md ops Q S ds fuel (listed.setIfInBounds i true) a' w') a w
theorem AllReadyL.nil {fuel : Nat} {listed : Array Bool} {a : Act} {w : World} : AllReadyL P md ops Q S ds fuel listed a w [] := fun _ h => by cases h
theorem AllReadyL.cons {fuel : Nat} {listed : Array Bool} {a : Act} {w : World} {i : Nat} {o : Oper} {rs : List Nat} (ho : ops[i]? = some o) (hd : i ∉ ds)
  (h : ∀ K' : Act → World → Prop, Shut (∀ a w, S w → (S w → wpAnyLast P md ops Q S ds fuel (listed.setIfInBounds i true) a w) → K' a w) → if Region.wanted o (yielded ops a.tmps) = true then Oper.wp P o a w K' Q else K' (a.put o.dst undef) w)
  (hs : AllReadyL P md ops Q S ds fuel listed a w rs) : AllReadyL P md ops Q S ds fuel listed a w (i :: rs) := fun j hj => by
 rcases List.mem_cons.1 hj with rfl | hj
 ·exact wpOp_step ho (fun K' hK => h K' (fun a w hS hW => hK a w ⟨fun _ _ => hS, hW hS⟩))
 ·exact hs j hj
theorem AllReadyL.cons_last {fuel : Nat} {listed : Array Bool} {a : Act} {w : World} {i : Nat} {o : Oper} {rs : List Nat} (ho : ops[i]? = some o) (hd : i ∈ ds)
  (h : ∀ K' : Act → World → Prop, Shut (∀ a w, wpAnyLast P md ops Q S ds fuel (listed.setIfInBounds i true) a w → K' a w) → if Region.wanted o (yielded ops a.tmps) = true then Oper.wp P o a w K' Q else K' (a.put o.dst undef) w)
  (hs : AllReadyL P md ops Q S ds fuel listed a w rs) : AllReadyL P md ops Q S ds fuel listed a w (i :: rs) := fun j hj => by
 rcases List.mem_cons.1 hj with rfl | hj
 ·exact wpOp_step ho (fun K' hK => h K' (fun a w hW => hK a w ⟨fun hn => absurd hd hn, hW⟩))
 ·exact hs j hj
theorem wpAnyLast_ready {rs : List Nat} {fuel : Nat} {listed : Array Bool} {a : Act} {w : World} (hr : Region.ready md ops listed = rs) (hne : rs ≠ [])
  (h : AllReadyL P md ops Q S ds fuel listed a w rs) : wpAnyLast P md ops Q S ds (fuel + 1) listed a w := wpAnyLast_all hr hne h
theorem start_ {id n : Nat} {a : Act} {w : World} (l : Array Bool) (hm : P.follows .mixedOrders = true) (hn : ops.size = n) (hl : Array.replicate n false = l) (hS : S w.drew)
  (h : S w.drew → wpAnyLast P .any ops Q S ds n l a w.drew) : (Code.region id ops true).wp P Q a w := by
 subst hn
 subst hl
 exact wp_region_last hm (h hS)
def takeB (md : Region.Mode) (ops : Array Oper) (ds : List Nat) (l l' : Array Bool) (i : Nat) : Bool :=
 Region.noSelect ops && Region.free md ops l i && (Region.ready md ops l).contains i && Region.closedB md ops l && Region.lastB md ops l ds i && (l.setIfInBounds i true == l')
theorem take_ {i : Nat} {N : Option Tmp} {oi : Oper} {v : Value} {fuel : Nat} {l : Array Bool} {a : Act} {w : World} (l' : Array Bool) (hi : ops[i]? = some oi) (hN : oi.dst = N) (hc : takeB md ops ds l l' i = true)
  (hQ : ∀ c a w, Q (.panic c) (a.put oi.dst v) w → Q (.panic c) a w) (hy : YieldsIf P ops S oi v a) (hS : S w) {a' : Act} (ha : a.put N v = a')
  (h : wpAnyLast P md ops Q S ds fuel l' a' w) : wpAnyLast P md ops Q S ds (fuel + 1) l a w := by
 subst ha
 subst hN
 simp only [takeB, Bool.and_eq_true, beq_iff_eq] at hc
 obtain ⟨⟨⟨⟨⟨h1, h2⟩, h3⟩, h4⟩, h5⟩, h6⟩ := hc
 subst h6
 exact wpAnyLast_take hi h1 h2 h3 h4 h5 hQ hy hS h
def anyB (md : Region.Mode) (ops : Array Oper) (l l' : Array Bool) (i : Nat) : Bool :=
 Region.noSelect ops && Region.free md ops l i && (Region.ready md ops l).contains i && (l.setIfInBounds i true == l')
theorem pure_ {i : Nat} {N : Option Tmp} {oi : Oper} {v : Value} {fuel : Nat} {l : Array Bool} {a : Act} {w : World} (l' : Array Bool) (hi : ops[i]? = some oi) (hN : oi.dst = N) (hc : anyB md ops l l' i = true)
  (hQ : ∀ c a w, Q (.panic c) (a.put oi.dst v) w → Q (.panic c) a w) (hy : Yields P ops oi v a) {a' : Act} (ha : a.put N v = a')
  (h : wpAnyLast P md ops Q S ds fuel l' a' w) : wpAnyLast P md ops Q S ds (fuel + 1) l a w := by
 subst ha
 subst hN
 simp only [anyB, Bool.and_eq_true, beq_iff_eq] at hc
 obtain ⟨⟨⟨h1, h2⟩, h3⟩, h6⟩ := hc
 subst h6
 exact wpAnyLast_any hi (Region.noSelect_spec h1) hQ fuel l a w (Region.free_spec hi h2) (by simpa using h3) hy h
def readyB (md : Region.Mode) (ops : Array Oper) (l l' : Array Bool) (i : Nat) : Bool := (Region.ready md ops l == [i]) && (l.setIfInBounds i true == l')
theorem one_ {i : Nat} {N : Option Tmp} {oi : Oper} {fuel : Nat} {l : Array Bool} {a : Act} {w : World} (l' : Array Bool) (hi : ops[i]? = some oi) (hN : oi.dst = N) (hc : readyB md ops l l' i = true) (hd : i ∉ ds)
  (h : ∀ K : Act → World → Prop, Shut (∀ a' w', S w' → (S w' → wpAnyLast P md ops Q S ds fuel l' a' w') → K a' w') → if Region.wanted oi (yielded ops a.tmps) = true then Oper.wp P oi a w K Q else K (a.put N undef) w) :
  wpAnyLast P md ops Q S ds (fuel + 1) l a w := by
 subst hN
 simp only [readyB, Bool.and_eq_true, beq_iff_eq] at hc
 obtain ⟨h1, h2⟩ := hc
 subst h2
 exact wpAnyLast_ready h1 (by simp) (AllReadyL.cons hi hd (fun K hK => h K hK) AllReadyL.nil)
theorem last_ {i : Nat} {N : Option Tmp} {oi : Oper} {fuel : Nat} {l : Array Bool} {a : Act} {w : World} (l' : Array Bool) (hi : ops[i]? = some oi) (hN : oi.dst = N) (hc : readyB md ops l l' i = true) (hd : i ∈ ds)
  (h : ∀ K : Act → World → Prop, Shut (∀ a' w', wpAnyLast P md ops Q S ds fuel l' a' w' → K a' w') → if Region.wanted oi (yielded ops a.tmps) = true then Oper.wp P oi a w K Q else K (a.put N undef) w) :
  wpAnyLast P md ops Q S ds (fuel + 1) l a w := by
 subst hN
 simp only [readyB, Bool.and_eq_true, beq_iff_eq] at hc
 obtain ⟨h1, h2⟩ := hc
 subst h2
 exact wpAnyLast_ready h1 (by simp) (AllReadyL.cons_last hi hd (fun K hK => h K hK) AllReadyL.nil)
theorem done_ {l : Array Bool} {a : Act} {w : World} {n : Nat} (hr : (Region.ready md ops l == []) = true) (h : Q .normal a w) : wpAnyLast P md ops Q S ds n l a w := wpAnyLast_done (by simpa using hr) h n
theorem two_ {i j : Nat} {Ni Nj : Option Tmp} {oi oj : Oper} {fuel : Nat} {l : Array Bool} {a : Act} {w : World} (li lj : Array Bool) (hi : ops[i]? = some oi) (hj : ops[j]? = some oj) (hNi : oi.dst = Ni) (hNj : oj.dst = Nj)
  (hc : (Region.ready md ops l == [i, j] && l.setIfInBounds i true == li && l.setIfInBounds j true == lj) = true) (hdi : i ∉ ds) (hdj : j ∉ ds)
  (h1 : ∀ K : Act → World → Prop, Shut (∀ a' w', S w' → (S w' → wpAnyLast P md ops Q S ds fuel li a' w') → K a' w') → if Region.wanted oi (yielded ops a.tmps) = true then Oper.wp P oi a w K Q else K (a.put Ni undef) w)
  (h2 : ∀ K : Act → World → Prop, Shut (∀ a' w', S w' → (S w' → wpAnyLast P md ops Q S ds fuel lj a' w') → K a' w') → if Region.wanted oj (yielded ops a.tmps) = true then Oper.wp P oj a w K Q else K (a.put Nj undef) w) :
  wpAnyLast P md ops Q S ds (fuel + 1) l a w := by
 subst hNi
 subst hNj
 simp only [Bool.and_eq_true, beq_iff_eq] at hc
 obtain ⟨⟨h3, h4⟩, h5⟩ := hc
 subst h4
 subst h5
 exact wpAnyLast_ready h3 (by simp) (AllReadyL.cons hi hdi (fun K hK => h1 K hK) (AllReadyL.cons hj hdj (fun K hK => h2 K hK) AllReadyL.nil))
def putAll : Act → List (Tmp × Value) → Act
 | a, [] => a
 | a, (n, v) :: r => putAll (a.put (some n) v) r
theorem join_ {σ : Type} {fuel : Nat} {l : Array Bool} {a : Act} {w : World} (fuel' : Nat) (l' : Array Bool) (ns : σ → List (Tmp × Value)) (F : σ → World → Prop)
  (hcont : ∀ s w', F s w' → wpAnyLast P md ops Q S ds fuel' l' (putAll a (ns s)) w')
  (h : (∀ s w', F s w' → wpAnyLast P md ops Q S ds fuel' l' (putAll a (ns s)) w') → wpAnyLast P md ops Q S ds fuel l a w) : wpAnyLast P md ops Q S ds fuel l a w := h hcont
theorem norm_ {fuel : Nat} {l : Array Bool} {a a' : Act} {w : World} (ha : a = a') (h : wpAnyLast P md ops Q S ds fuel l a' w) : wpAnyLast P md ops Q S ds fuel l a w := by
 subst ha
 exact h
theorem call_ {oi : Oper} {N : Option Tmp} {a : Act} {w : World} {K : Act → World → Prop} (f : FuncId) (args : Array Value) (hw : Region.wanted oi (yielded ops a.tmps) = true) (hN : oi.dst = N) (hrun : (execOp a.eval oi).run P w = .ok (.enter f args) w)
  (h : Calls P f args w fun e w' => ∃ v, e = .returned v ∧ K (a.put N v) w') : if Region.wanted oi (yielded ops a.tmps) = true then Oper.wp P oi a w K Q else K (a.put N undef) w := by
 rw [if_pos hw]
 subst hN
 unfold Oper.wp
 rw [hrun, Oper.upon_enter]
 refine h.mono fun e w'' hh => ?_
 obtain ⟨v, rfl, hk⟩ := hh
 exact hk
theorem enters_ {f : FuncId} {fn : Func} (hf : P.funcs[f]? = some fn) (hname : (fn.name == "runtime.NumGoroutine") = false) (hb : fn.body.isSome = true) (args : Array Value) (w : World) : (callFunc f args).run P w = .ok (.enter f args) w := by
 have h1 : fn.name ≠ "runtime.NumGoroutine" := by simpa using hname
 obtain ⟨c, hc⟩ := Option.isSome_iff_exists.1 hb
 simp [callFunc, hf, h1, hc]
theorem goes_ {oi : Oper} {N : Option Tmp} {a : Act} {w : World} {K : Act → World → Prop} {f : FuncId} {fn : Func} {as0 : Array Operand} {ts : Array TypeId} (hf : P.funcs[f]? = some fn) (hname : (fn.name == "runtime.NumGoroutine") = false) (hb : fn.body.isSome = true) (args : Array Value)
  (hw : Region.wanted oi (yielded ops a.tmps) = true) (hN : oi.dst = N) (hop : oi.op = .call { callee := .value (.func f), args := as0, argTypes := ts }) (hargs : as0.map a.eval = args)
  (h : Calls P f args w fun e w' => ∃ v, e = .returned v ∧ K (a.put N v) w') : if Region.wanted oi (yielded ops a.tmps) = true then Oper.wp P oi a w K Q else K (a.put N undef) w := by
 refine call_ f args hw hN ?_ h
 have he := enters_ hf hname hb args w
 unfold execOp
 simp [hop, resolve, Deferred.ofValue, invoke, Act.eval, hargs, he]
theorem goesL_ {rest : List Oper} {oi : Oper} {a : Act} {w : World} (N : Option Tmp) (hd : oi.dst = N) (hg : oi.guard = none) {f : FuncId} {fn : Func} {as0 : Array Operand} {ts : Array TypeId} (hf : P.funcs[f]? = some fn) (hname : (fn.name == "runtime.NumGoroutine") = false) (hb : fn.body.isSome = true) (args : Array Value)
  (hop : oi.op = .call { callee := .value (.func f), args := as0, argTypes := ts }) (hargs : as0.map a.eval = args)
  (h : Calls P f args w fun e w' => ∃ v, e = .returned v ∧ wpList P ops Q rest (a.put N v) w') : wpList P ops Q (oi :: rest) a w := by
 refine wpList_plain hg fun K hK => ?_
 have he := enters_ hf hname hb args w
 have hrun : (execOp a.eval oi).run P w = .ok (.enter f args) w := by
  unfold execOp
  simp [hop, resolve, Deferred.ofValue, invoke, Act.eval, hargs, he]
 unfold Oper.wp
 rw [hrun, Oper.upon_enter]
 refine h.mono fun e w'' hh => ?_
 obtain ⟨v, rfl, hk⟩ := hh
 subst hd
 exact hK _ _ hk
theorem value_ {oi : Oper} {N : Option Tmp} {a : Act} {w w1 : World} {v : Value} {K : Act → World → Prop} (hw : Region.wanted oi (yielded ops a.tmps) = true) (hN : oi.dst = N) (hrun : (execOp a.eval oi).run P w = .ok (.value v) w1)
  (h : K (a.put N v) w1) : if Region.wanted oi (yielded ops a.tmps) = true then Oper.wp P oi a w K Q else K (a.put N undef) w := by
 rw [if_pos hw]
 subst hN
 unfold Oper.wp
 rw [hrun]
 exact h
theorem skip_ {oi : Oper} {a : Act} {w w1 : World} {K : Act → World → Prop} (hw : Region.wanted oi (yielded ops a.tmps) = true) (hN : oi.dst = none) (hrun : (execOp a.eval oi).run P w = .ok .skip w1)
  (h : K a w1) : if Region.wanted oi (yielded ops a.tmps) = true then Oper.wp P oi a w K Q else K (a.put none undef) w := by
 rw [if_pos hw]
 unfold Oper.wp
 rw [hrun]
 show K (a.put oi.dst undef) w1
 rw [hN]
 exact h
theorem i64_w (n : Int) : IntKind.i64.wrap n = Go.RowKit.wrap64 n := by unfold Go.RowKit.wrap64; exact IntKind.wrap_i64 n
theorem i32_w (n : Int) : IntKind.i32.wrap n = Go.RowKit.wrap32 n := by unfold Go.RowKit.wrap32; exact IntKind.wrap_i32 n
end
end Go.Proofs.YtgakmnholegbgaaW.PrintLast
end
section
namespace Go.Proofs.YtgakmnholegbgaaW.PrintWords
open Go.RowKit
namespace Kd
def tag {α : Type} (f : Nat → Nat) (d : Kd α) : Kd (α × Nat) where
 sz := d.sz
 E := d.E
 K := fun w x cs => d.K w x.1 cs
 M := fun w base ok x cs => d.M w base (fun k => ok k ∧ f k = x.2) x.1 cs
 K_len := fun h => d.K_len h
 K_one := fun h => d.K_one h
 K_below := fun hb h => d.K_below hb h
 K_of_M := fun h => d.K_of_M h
 M_mono := fun hok h => d.M_mono (fun k hk => ⟨hok k hk.1, hk.2⟩) h
 M_bound := fun h => d.M_mono (fun _ hk => ⟨⟨hk.1.1, hk.2⟩, hk.1.2⟩) (d.M_bound h)
 M_move := fun hm h => d.M_move (fun k hk => hm k hk.1) h
 M_lower := fun hb h => d.M_lower hb h
def raw (sz : Nat) : Kd (List Value) where
 sz := sz
 E := []
 K := fun _ x cs => cs = x ∧ cs.length = sz ∧ ∀ u ∈ cs, u.oneCell' = true
 M := fun _ _ _ x cs => cs = x ∧ cs.length = sz ∧ ∀ u ∈ cs, u.oneCell' = true
 K_len := fun h => h.2.1
 K_one := fun h => h.2.2
 K_below := fun _ h => h
 K_of_M := fun h => h
 M_mono := fun _ h => h
 M_bound := fun h => h
 M_move := fun _ h => h
 M_lower := fun _ h => h
def S {α : Type} (d : Kd α) (e : Nat) (w : World) (base : Nat) (ok : Nat → Prop) (v : Value) (xs : List α) : Prop := ∃ f, (tag f d).R e w base ok v xs.zipIdx
section
variable {α β : Type} {d : Kd α} {d' : Kd β} {e e' : Nat} {w w1 W : World} {base b : Nat} {ok ok' okv oku : Nat → Prop} {u v : Value} {xs : List α} {ys : List β}
theorem zip_at {xs : List α} {j : Nat} {p : α} (h : xs[j]? = some p) : xs.zipIdx[j]? = some (p, j) := by rw [List.getElem?_zipIdx, h, Nat.zero_add]; rfl
theorem R_tag {f f' : Nat → Nat} {zs : List (α × Nat)} (h : (tag f d).R e w base ok v zs) (hf : ∀ k, ok k → k < w.heap.size → f' k = f k) : (tag f' d).R e w base ok v zs := by
 obtain ⟨h0, inner, ho, hr⟩ := R_bound h
 exact ⟨fun k hk => (h0 k hk).1, inner, ho, hr.1, fun j p hj => d.M_mono (fun k hk => ⟨⟨hk.1.1.1, hk.1.2⟩, (hf k hk.1.1.1 hk.1.1.2.2.1).trans hk.2⟩) (hr.2 j p hj)⟩
end
section
variable {α β : Type} {d : Kd α} {d' : Kd β} {e e' g : Nat} {w w1 W : World} {base b : Nat} {ok ok' okv oku : Nat → Prop} {u v : Value} {xs : List α} {ys : List β}
end
section
open Classical in
theorem S_tag {α : Type} {d : Kd α} {e base : Nat} {okv : Nat → Prop} {w : World} {v : Value} {xs : List α} (h : S d e w base okv v xs) (m : Nat) (okp : Nat → Prop) (hap : ∀ k, okp k → ¬ okv k) : ∃ f, (∀ k, okp k → f k = m) ∧ (tag f d).R e w base okv v xs.zipIdx := by
 obtain ⟨f, h⟩ := h
 exact ⟨fun k => if okp k then m else f k, fun k hk => if_pos hk, R_tag h (fun k hk _ => if_neg (fun h2 => hap k h2 hk))⟩
variable {P : Program} {ops : Array Oper} {rest : List Oper} {o : Oper} {a : Act} {Q : Exit → Act → World → Prop} {Kc : Act → World → Prop} {α : Type}
end
def gap {α : Type} (f : Nat → Nat) (d : Kd α) (i : Nat) (c : List Value) : Kd (α × Nat) where
 sz := d.sz
 E := d.E
 K := fun w x cs => (x.2 = i → cs = c ∧ cs.length = d.sz ∧ ∀ u ∈ cs, u.oneCell' = true) ∧ (x.2 ≠ i → d.K w x.1 cs)
 M := fun w base ok x cs => (x.2 = i → cs = c ∧ cs.length = d.sz ∧ ∀ u ∈ cs, u.oneCell' = true) ∧ (x.2 ≠ i → d.M w base (fun k => ok k ∧ f k = x.2) x.1 cs)
 K_len := fun {w x cs} h => by
  by_cases hx : x.2 = i
  ·exact (h.1 hx).2.1
  ·exact d.K_len (h.2 hx)
 K_one := fun {w x cs} h => by
  by_cases hx : x.2 = i
  ·exact (h.1 hx).2.2
  ·exact d.K_one (h.2 hx)
 K_below := fun hb h => ⟨h.1, fun hx => d.K_below hb (h.2 hx)⟩
 K_of_M := fun h => ⟨h.1, fun hx => d.K_of_M (h.2 hx)⟩
 M_mono := fun hok h => ⟨h.1, fun hx => d.M_mono (fun k hk => ⟨hok k hk.1, hk.2⟩) (h.2 hx)⟩
 M_bound := fun h => ⟨h.1, fun hx => d.M_mono (fun _ hk => ⟨⟨hk.1.1, hk.2⟩, hk.1.2⟩) (d.M_bound (h.2 hx))⟩
 M_move := fun hm h => ⟨h.1, fun hx => d.M_move (fun k hk => hm k hk.1) (h.2 hx)⟩
 M_lower := fun hb h => ⟨h.1, fun hx => d.M_lower hb (h.2 hx)⟩
def H {α : Type} (d : Kd α) (e : Nat) (w : World) (base : Nat) (ok : Nat → Prop) (v : Value) (xs : List α) (i : Int) (oki : Nat → Prop) (c : List Value) : Prop :=
 (∀ k, oki k → ok k) ∧ ∃ f, (gap f d i.toNat c).R e w base (fun k => ok k ∧ ¬ oki k) v xs.zipIdx
section
variable {α β : Type} {d : Kd α} {e e' g n cap : Nat} {w w1 W : World} {base : Nat} {ok ok' oki okp : Nat → Prop} {u v : Value} {xs : List α} {i : Int} {c : List Value}
open Classical in
theorem H_back (h : H d e w base ok v xs i oki c) {x' : α} (hM : d.M w base okp x' c) (hok : ∀ k, okp k → oki k) : S d e w base ok v (xs.set i.toNat x') := by
 obtain ⟨ho, f, h0, inner, hown, hr⟩ := h
 refine ⟨fun k => if oki k then i.toNat else f k, fun k hk => (h0 k hk).1, inner, by rw [List.length_zipIdx, List.length_set]; rw [List.length_zipIdx] at hown; exact hown, by have := hr.1; rw [List.length_zipIdx] at this; rw [List.length_zipIdx, List.length_set]; exact this, fun m p hm => ?_⟩
 rw [List.getElem?_zipIdx, Nat.zero_add] at hm
 obtain ⟨q, hq, rfl⟩ := Option.map_eq_some_iff.1 hm
 have hml : m < xs.length := by
  have := (List.getElem?_eq_some_iff.1 hq).1
  rwa [List.length_set] at this
 by_cases hmi : m = i.toNat
 ·subst hmi
  rw [List.getElem?_set_self hml] at hq
  injection hq with hq
  subst hq
  have hc := ((hr.2 i.toNat _ (zip_at (List.getElem?_eq_getElem hml))).1 rfl).1
  show d.M w base _ x' ((inner.drop (i.toNat * d.sz)).take d.sz)
  rw [show (inner.drop (i.toNat * d.sz)).take d.sz = c from hc]
  exact d.M_mono (fun k hk => ⟨⟨ho k (hok k hk), fun he => (h0 k he.symm).2 (hok k hk)⟩, if_pos (hok k hk)⟩) hM
 ·rw [List.getElem?_set_ne (Ne.symm hmi)] at hq
  exact d.M_mono (fun k hk => ⟨⟨hk.1.1.1, hk.1.2⟩, (if_neg hk.1.1.2).trans hk.2⟩) ((hr.2 m (q, m) (zip_at hq)).2 hmi)
end
section
variable {P : Program} {ops : Array Oper} {rest : List Oper} {o : Oper} {a : Act} {Q : Exit → Act → World → Prop} {α : Type}
end
end Kd
end Go.Proofs.YtgakmnholegbgaaW.PrintWords
end
section
namespace Go.Proofs.YtgakmnholegbgaaW.PrintWords
open Go.RowKit
def Foot (P : World → Prop) (W : World) (ok : Nat → Prop) : Prop := ∀ W' : World, (∀ k, ok k → k < W.heap.size → W'.heap[k]? = W.heap[k]?) → P W'
theorem heap_lt {W W1 : World} {k : Nat} (h : W1.heap[k]? = W.heap[k]?) (hlt : k < W.heap.size) : k < W1.heap.size := by
 rw [Array.getElem?_eq_getElem hlt] at h
 exact (Array.getElem?_eq_some_iff.1 h).1
namespace Foot
variable {P Q : World → Prop} {W W1 : World} {ok ok' : Nat → Prop}
theorem now (h : Foot P W ok) : P W := h W (fun _ _ _ => rfl)
theorem mono (h : Foot P W ok) (hok : ∀ k, ok k → ok' k) : Foot P W ok' := fun W' hW => h W' (fun k hk hlt => hW k (hok k hk) hlt)
theorem step (h : Foot P W ok) (hm : ∀ k, ok k → k < W.heap.size → W1.heap[k]? = W.heap[k]?) : Foot P W1 ok := fun W' hW => h W' (fun k hk hlt => (hW k hk (heap_lt (hm k hk hlt) hlt)).trans (hm k hk hlt))
end Foot
namespace Kd
def F {α : Type} (d : Kd α) (W : World) (ok : Nat → Prop) (A : Option Addr) (n : Nat) (xs : List α) : Prop := Foot (fun W => d.C W A n xs) W ok
def FK {α : Type} (d : Kd α) (W : World) (ok : Nat → Prop) (x : α) (c : List Value) : Prop := Foot (fun W => d.K W x c) W ok
section
variable {α β : Type} {d : Kd α} {e base n n' cc g N : Nat} {ok ok' okp S : Nat → Prop} {w w0 w1 W W1 : World} {A A' : Option Addr} {u v v1 : Value} {xs : List α} {xs' : List β} {d' : Kd β} {x : α} {c : List Value}
end
end Kd
end Go.Proofs.YtgakmnholegbgaaW.PrintWords
end
section
namespace Go.Proofs.YtgakmnholegbgaaW.PrintWords
open Go.RowKit
namespace Kd
section
variable {α : Type} {d : Kd α} {e base n cc g : Nat} {ok ok' okp S : Nat → Prop} {w w1 W W1 : World} {A : Option Addr} {u v v1 : Value} {xs : List α} {x : α} {c : List Value}
def N {α : Type} (d : Kd α) (e : Nat) (w : World) (base : Nat) (ok : Nat → Prop) (v : Value) (xs : List α) : Prop :=
 (∀ k, v.ownBlock = some k → ok k) ∧ ∃ rows : List (List Value), rows.length = xs.length ∧ (raw d.sz).R e w base (fun k => some k = v.ownBlock) v rows ∧ ∀ (j : Nat) (x : α) (c : List Value), xs[j]? = some x → rows[j]? = some c → FK d w (fun k => ok k ∧ some k ≠ v.ownBlock) x c
end
end Kd
end Go.Proofs.YtgakmnholegbgaaW.PrintWords
end
section
namespace Go.Proofs.YtgakmnholegbgaaW.PrintWords
theorem Reps.one {α : Type} {R : α → List Value → Prop} {ps : List α} {cs : List Value} {p : α} {v : Value} (hp : R p [v]) (h : Reps R 1 ps cs) : Reps R 1 (p :: ps) (v :: cs) := by
 refine ⟨by simp [h.1], fun j q hq => ?_⟩
 cases j with
 | zero =>
  simp only [List.getElem?_cons_zero, Option.some.injEq] at hq
  subst hq
  simpa using hp
 | succ j =>
  simp only [List.getElem?_cons_succ] at hq
  have h1 := h.2 j q hq
  simpa [Nat.mul_one] using h1
theorem Reps.front {α : Type} {R : α → List Value → Prop} {size : Nat} {ps : List α} {cs c all : List Value} {p : α} (hp : R p c) (hc : c.length = size) (h : Reps R size ps cs) (ha : c ++ cs = all) : Reps R size (p :: ps) all := by
 subst ha
 refine ⟨by rw [List.length_append, hc, h.1, List.length_cons, Nat.succ_mul, Nat.add_comm], fun j q hq => ?_⟩
 cases j with
 | zero =>
  simp only [List.getElem?_cons_zero, Option.some.injEq] at hq
  subst hq
  rw [Nat.zero_mul, List.drop_zero, List.take_append_of_le_length (by omega), List.take_of_length_le (by omega)]
  exact hp
 | succ j =>
  simp only [List.getElem?_cons_succ] at hq
  have h1 := h.2 j q hq
  rw [Nat.succ_mul, List.drop_append, List.drop_of_length_le (by rw [hc]; exact Nat.le_add_left _ _), List.nil_append, hc, Nat.add_sub_cancel]
  exact h1
theorem Reps.c2 {α : Type} {R : α → List Value → Prop} {ps : List α} {cs : List Value} {p : α} {va vb : Value} (hp : R p [va, vb]) (h : Reps R 2 ps cs) : Reps R 2 (p :: ps) (va :: vb :: cs) := Reps.front hp rfl h rfl
theorem Reps.c3 {α : Type} {R : α → List Value → Prop} {ps : List α} {cs : List Value} {p : α} {va vb vc : Value} (hp : R p [va, vb, vc]) (h : Reps R 3 ps cs) : Reps R 3 (p :: ps) (va :: vb :: vc :: cs) := Reps.front hp rfl h rfl
theorem Reps.c4 {α : Type} {R : α → List Value → Prop} {ps : List α} {cs : List Value} {p : α} {va vb vc vd : Value} (hp : R p [va, vb, vc, vd]) (h : Reps R 4 ps cs) : Reps R 4 (p :: ps) (va :: vb :: vc :: vd :: cs) := Reps.front hp rfl h rfl
theorem Reps.c5 {α : Type} {R : α → List Value → Prop} {ps : List α} {cs : List Value} {p : α} {va vb vc vd ve : Value} (hp : R p [va, vb, vc, vd, ve]) (h : Reps R 5 ps cs) : Reps R 5 (p :: ps) (va :: vb :: vc :: vd :: ve :: cs) := Reps.front hp rfl h rfl
theorem Reps.c6 {α : Type} {R : α → List Value → Prop} {ps : List α} {cs : List Value} {p : α} {va vb vc vd ve vf : Value} (hp : R p [va, vb, vc, vd, ve, vf]) (h : Reps R 6 ps cs) : Reps R 6 (p :: ps) (va :: vb :: vc :: vd :: ve :: vf :: cs) := Reps.front hp rfl h rfl
theorem Reps.c7 {α : Type} {R : α → List Value → Prop} {ps : List α} {cs : List Value} {p : α} {va vb vc vd ve vf vg : Value} (hp : R p [va, vb, vc, vd, ve, vf, vg]) (h : Reps R 7 ps cs) : Reps R 7 (p :: ps) (va :: vb :: vc :: vd :: ve :: vf :: vg :: cs) := Reps.front hp rfl h rfl
theorem Reps.c8 {α : Type} {R : α → List Value → Prop} {ps : List α} {cs : List Value} {p : α} {va vb vc vd ve vf vg vh : Value} (hp : R p [va, vb, vc, vd, ve, vf, vg, vh]) (h : Reps R 8 ps cs) : Reps R 8 (p :: ps) (va :: vb :: vc :: vd :: ve :: vf :: vg :: vh :: cs) := Reps.front hp rfl h rfl
theorem Reps.c9 {α : Type} {R : α → List Value → Prop} {ps : List α} {cs : List Value} {p : α} {va vb vc vd ve vf vg vh vi : Value} (hp : R p [va, vb, vc, vd, ve, vf, vg, vh, vi]) (h : Reps R 9 ps cs) : Reps R 9 (p :: ps) (va :: vb :: vc :: vd :: ve :: vf :: vg :: vh :: vi :: cs) := Reps.front hp rfl h rfl
theorem Reps.c10 {α : Type} {R : α → List Value → Prop} {ps : List α} {cs : List Value} {p : α} {va vb vc vd ve vf vg vh vi vj : Value} (hp : R p [va, vb, vc, vd, ve, vf, vg, vh, vi, vj]) (h : Reps R 10 ps cs) : Reps R 10 (p :: ps) (va :: vb :: vc :: vd :: ve :: vf :: vg :: vh :: vi :: vj :: cs) := Reps.front hp rfl h rfl
end Go.Proofs.YtgakmnholegbgaaW.PrintWords
end
section
namespace Go.Proofs.YtgakmnholegbgaaW.PrintLast
def up (b : Nat → Bool) (i : Nat) : Nat → Bool := fun j => if j = i then true else b j
section
variable {P : Program} {ops : Array Oper} {Q : Exit → Act → World → Prop} {md : Region.Mode} {T : Bool × List (List Nat × List Nat)} {B : List Nat} {O : List Nat} {b : Nat → Bool} {i j n : Nat}
end
end Go.Proofs.YtgakmnholegbgaaW.PrintLast
end
section
namespace Go.Proofs.YtgakmnholegbgaaW.PrintMore
open Go.RowKit Go.Proofs.YtgakmnholegbgaaW.PrintWords
namespace Kd
open Go.Proofs.YtgakmnholegbgaaW.PrintWords.Kd
end Kd
namespace Kd
open Go.Proofs.YtgakmnholegbgaaW.PrintWords.Kd
section
variable {α : Type} {d : Kd α} {e base g N : Nat} {ok : Nat → Prop} {W w1 : World} {u v : Value} {xs : List α}
end
end Kd
theorem max2_int (k k' : IntKind) (x y : Int) : Builtin.max2 (.int k x) (.int k' y) = pure (.int k (if x < y then y else x)) := by simp only [Builtin.max2, gt_iff_lt]
theorem min2_int (k k' : IntKind) (x y : Int) : Builtin.min2 (.int k x) (.int k' y) = pure (.int k (if y < x then y else x)) := by simp only [Builtin.min2]
theorem max_two (ats : Array TypeId) (ty : TypeId) (a b : Value) : Builtin.max_ ats ty #[a, b] = (Builtin.max2 a b >>= fun s => pure s) := by simp only [Builtin.max_, List.foldlM_cons, List.foldlM_nil]
theorem min_two (ats : Array TypeId) (ty : TypeId) (a b : Value) : Builtin.min_ ats ty #[a, b] = (Builtin.min2 a b >>= fun s => pure s) := by simp only [Builtin.min_, List.foldlM_cons, List.foldlM_nil]
theorem max_three (ats : Array TypeId) (ty : TypeId) (a b c : Value) : Builtin.max_ ats ty #[a, b, c] = (Builtin.max2 a b >>= fun s => Builtin.max2 s c >>= fun s => pure s) := by simp only [Builtin.max_, List.foldlM_cons, List.foldlM_nil]
theorem min_three (ats : Array TypeId) (ty : TypeId) (a b c : Value) : Builtin.min_ ats ty #[a, b, c] = (Builtin.min2 a b >>= fun s => Builtin.min2 s c >>= fun s => pure s) := by simp only [Builtin.min_, List.foldlM_cons, List.foldlM_nil]
theorem max_four (ats : Array TypeId) (ty : TypeId) (a b c d : Value) : Builtin.max_ ats ty #[a, b, c, d] = (Builtin.max2 a b >>= fun s => Builtin.max2 s c >>= fun s => Builtin.max2 s d >>= fun s => pure s) := by simp only [Builtin.max_, List.foldlM_cons, List.foldlM_nil]
theorem min_four (ats : Array TypeId) (ty : TypeId) (a b c d : Value) : Builtin.min_ ats ty #[a, b, c, d] = (Builtin.min2 a b >>= fun s => Builtin.min2 s c >>= fun s => Builtin.min2 s d >>= fun s => pure s) := by simp only [Builtin.min_, List.foldlM_cons, List.foldlM_nil]
end Go.Proofs.YtgakmnholegbgaaW.PrintMore
namespace Go.Proofs.YtgakmnholegbgaaW.PrintWords
open Go.RowKit
section
variable {P : Program} {ops : Array Oper} {rest : List Oper} {o : Oper} {a : Act} {Q : Exit → Act → World → Prop} {W : World}
theorem gate_callee {f : FuncId} {as0 : Array Operand} {ts : Array TypeId} (_ho : o.op = .call { callee := .value (.func f), args := as0, argTypes := ts }) (h : wpList P ops Q (o :: rest) a W) : wpList P ops Q (o :: rest) a W := h
end
def mn (a b : Int) : Int := if b < a then b else a
def shl (k : IntKind) (x y : Int) : Int := k.wrap (x * 2 ^ min y.toNat k.bits)
theorem shl_small {k : IntKind} {x y j : Int} (h : shl k x y = j) (hy : y ≤ k.bits) : k.wrap (x * 2 ^ y.toNat) = j := by rw [← h]; unfold shl; rw [Nat.min_eq_left (by omega)]
namespace Kd
section
variable {α : Type} {d : Kd α} {e base : Nat} {ok : Nat → Prop} {W w1 : World} {v : Value} {xs : List α}
end
section
variable {α : Type} {d : Kd α} {e base g n cap : Nat} {ok oki okp : Nat → Prop} {W : World} {xs : List α} {i : Int} {c : List Value}
end
section
variable {α : Type} {d : Kd α} {e base b b' g N : Nat} {ok ok1 : Nat → Prop} {W W2 w1 : World} {u v : Value} {xs ys : List α} {S : Nat → Prop}
end
end Kd
end Go.Proofs.YtgakmnholegbgaaW.PrintWords
namespace Go.Proofs.YtgakmnholegbgaaW.PrintWords
open Go.RowKit
namespace Kd
def V {α : Type} (d : Kd α) (_e : Nat) (W : World) (_base : Nat) (ok : Nat → Prop) (v : Value) (xs : List α) : Prop := ∃ A c, v = .slice A xs.length c ∧ xs.length ≤ c ∧ F d W ok A xs.length xs
section
variable {α β : Type} {d : Kd α} {e base base' n m c g N' lo hi : Nat} {ok ok' S : Nat → Prop} {w W w1 : World} {A : Option Addr} {ad : Addr} {u v v1 : Value} {xs : List α}
end
end Kd
end Go.Proofs.YtgakmnholegbgaaW.PrintWords
end
section
namespace Go.Proofs.Ytgakmnholegbgaa.B
open Go.RowKit Go.Proofs.YtgakmnholegbgaaW.PrintWords Go.Proofs.YtgakmnholegbgaaW.PrintLast Go.Proofs.YtgakmnholegbgaaW.PrintMore
set_option linter.unusedVariables false
set_option linter.unusedSimpArgs false
def hold (n : Int) : Int := if n < -9223372036854775808 then -9223372036854775808 else if 9223372036854775807 < n then 9223372036854775807 else n
theorem hold_lo {n : Int} (h : n < -9223372036854775808) : hold n = -9223372036854775808 := if_pos h
theorem hold_hi {n : Int} (h : 9223372036854775807 < n) : hold n = 9223372036854775807 := by unfold hold; rw [if_neg (by omega), if_pos h]
theorem hold_in {n : Int} (h : -9223372036854775808 ≤ n) (h' : n ≤ 9223372036854775807) : hold n = n := by unfold hold; rw [if_neg (by omega), if_neg (by omega)]
theorem hold_range (n : Int) : -9223372036854775808 ≤ hold n ∧ hold n ≤ 9223372036854775807 := by unfold hold; split; omega; split <;> omega
theorem ret_int {k : IntKind} {a b : Int} (h : a = b) : Ending.returned (.int k a) = .returned (.int k b) := by rw [h]
theorem add64_run {x y c d k : Int} (hx : 0 ≤ x) (hy : 0 ≤ y) (hc0 : 0 ≤ c) (hc : c ≤ 1) (hd : d = (x + y + c) % 18446744073709551616) (hk : k = (x + y + c) / 18446744073709551616) (w : World) :
  (callFunc 78 #[.int .u64 x, .int .u64 y, .int .u64 c]).run Try.prog w = .ok (.value (.tuple #[.int .u64 d, .int .u64 k])) w := by
 rw [run_callFunc_extern Try.func78 (by kernel_rfl) (by kernel_rfl) (by kernel_rfl) (e := add64Entry) (by kernel_rfl), run_add64 x y c hx hy hc0 hc, hd, hk]
 rfl
end Go.Proofs.Ytgakmnholegbgaa.B
end
section
namespace Go.Proofs.Ytgakmnholegbgaa.B
open Go.RowKit Go.Proofs.YtgakmnholegbgaaW.PrintWords Go.Proofs.YtgakmnholegbgaaW.PrintLast Go.Proofs.YtgakmnholegbgaaW.PrintMore
set_option linter.unusedVariables false
set_option linter.unusedSimpArgs false
def I64 (a : Int) : Prop := -9223372036854775808 ≤ a ∧ a ≤ 9223372036854775807
instance (a : Int) : Decidable (I64 a) := inferInstanceAs (Decidable (_ ∧ _))
end Go.Proofs.Ytgakmnholegbgaa.B
end
section
namespace Go.Proofs.Ytgakmnholegbgaa.B
theorem digit_stop {y N q1 yn1 yn0 r u u1 : Nat} (hy : y = yn1 * 4294967296 + yn0) (hN : N = u * 4294967296 + u1) (h : q1 * yn1 + r = u) (hs : q1 * yn0 ≤ 4294967296 * r + u1) : q1 * y ≤ N := by
 subst hy hN h
 rw [Nat.mul_add, ← Nat.mul_assoc, Nat.add_mul]
 generalize q1 * yn1 = a at *
 omega
theorem digit_go {y N q1 yn1 yn0 r u u1 : Nat} (hy : y = yn1 * 4294967296 + yn0) (hN : N = u * 4294967296 + u1) (h : q1 * yn1 + r = u) (hs : 4294967296 * r + u1 < q1 * yn0) : N < q1 * y := by
 subst hy hN h
 rw [Nat.mul_add, ← Nat.mul_assoc, Nat.add_mul]
 generalize q1 * yn1 = a at *
 omega
theorem digit_guess {y u yn1 yn0 : Nat} (hy : y = yn1 * 4294967296 + yn0) (h0 : yn0 < 4294967296) (h1 : 2147483648 ≤ yn1) (h2 : yn1 < 4294967296) (hu : u < y) : u / yn1 ≤ 4294967297 := by
 have : u / yn1 < 4294967298 := by
  rw [Nat.div_lt_iff_lt_mul (by omega)]
  omega
 omega
theorem digit_prod {q1 yn0 : Nat} (h : q1 ≤ 4294967297) (h0 : yn0 < 4294967296) : q1 * yn0 < 18446744073709551616 := by
 have : q1 * yn0 ≤ 4294967297 * 4294967295 := Nat.mul_le_mul h (by omega)
 omega
structure Guess (y N yn1 u q1 r : Nat) : Prop where
 sum : q1 * yn1 + r = u
 up : N / y ≤ q1
 few : q1 ≤ 4294967297
theorem Guess.less {y N yn1 yn0 u u1 q1 r : Nat} (hy : y = yn1 * 4294967296 + yn0) (hN : N = u * 4294967296 + u1) (hy0 : 0 < y) (hq : N / y < 4294967296)
  (g : Guess y N yn1 u q1 r) (hs : 4294967296 ≤ q1 ∨ 4294967296 * r + u1 < q1 * yn0) : 0 < q1 ∧ Guess y N yn1 u (q1 - 1) (r + yn1) := by
 have hlt : N / y < q1 := by
  rcases hs with hs | hs
  ·omega
  ·have := digit_go hy hN g.sum hs
   rwa [Nat.div_lt_iff_lt_mul hy0]
 have g1 := g.sum
 have g2 := g.few
 generalize hG : N / y = d at *
 refine ⟨by omega, ?_, by omega, by omega⟩
 have := g1
 obtain ⟨q, rfl⟩ : ∃ q, q1 = q + 1 := ⟨q1 - 1, by omega⟩
 rw [Nat.add_mul] at this
 simp
 omega
theorem Guess.ends {y N yn1 yn0 u u1 q1 r : Nat} (hy : y = yn1 * 4294967296 + yn0) (hN : N = u * 4294967296 + u1) (hy0 : 0 < y) (g : Guess y N yn1 u q1 r) (hs : q1 * yn0 ≤ 4294967296 * r + u1) : q1 = N / y := by
 have h1 := digit_stop hy hN g.sum hs
 have h2 : q1 ≤ N / y := (Nat.le_div_iff_mul_le hy0).2 h1
 have := g.up
 omega
theorem Guess.far {y N yn1 yn0 u u1 q1 r : Nat} (hy : y = yn1 * 4294967296 + yn0) (hN : N = u * 4294967296 + u1) (h0 : yn0 < 4294967296) (hy0 : 0 < y) (g : Guess y N yn1 u q1 r) (hs : 4294967296 ≤ r) : q1 = N / y := by
 refine g.ends hy hN hy0 ?_
 have : q1 * yn0 ≤ 4294967297 * 4294967295 := Nat.mul_le_mul g.few (by omega)
 omega
theorem Guess.first {y N yn1 yn0 u u1 : Nat} (hy : y = yn1 * 4294967296 + yn0) (hN : N = u * 4294967296 + u1) (h0 : yn0 < 4294967296) (h1 : 2147483648 ≤ yn1) (h2 : yn1 < 4294967296) (hu : u < y) (hu1 : u1 < 4294967296) :
  Guess y N yn1 u (u / yn1) (u % yn1) := by
 refine ⟨by rw [Nat.mul_comm]; exact Nat.div_add_mod _ _, ?_, digit_guess hy h0 h1 h2 hu⟩
 have hd := Nat.div_add_mod u yn1
 have hm := Nat.mod_lt u (show 0 < yn1 by omega)
 have : N / y < u / yn1 + 1 := by
  rw [Nat.div_lt_iff_lt_mul (by omega), hy, hN, Nat.mul_add, ← Nat.mul_assoc, Nat.add_mul, Nat.mul_comm (u / yn1)]
  generalize yn1 * (u / yn1) = a at *
  rw [Nat.add_mul]
  omega
 omega
theorem digit_lt {y N u u1 : Nat} (hN : N = u * 4294967296 + u1) (hu : u < y) (hu1 : u1 < 4294967296) : N / y < 4294967296 := by
 rw [Nat.div_lt_iff_lt_mul (by omega)]
 omega
theorem two_digits_aux {y D Z u0 q1 r1 q0 : Nat} (hy0 : 0 < y) (hd : y * q1 + r1 = D) (h0 : q0 = (r1 * Z + u0) / y) :
  q1 * Z + q0 = (D * Z + u0) / y ∧ (r1 * Z + u0) % y = (D * Z + u0) % y := by
 have e : D * Z + u0 = (r1 * Z + u0) + y * (q1 * Z) := by
  rw [← hd, Nat.add_mul, Nat.mul_assoc]
  omega
 rw [e]
 clear e hd
 subst h0
 generalize q1 * Z = K
 generalize r1 * Z + u0 = A
 exact ⟨by rw [Nat.add_mul_div_left _ _ hy0]; omega, (Nat.add_mul_mod_self_left _ _ _).symm⟩
theorem two_digits {y u u1 u0 q1 r1 q0 : Nat} (hy0 : 0 < y) (h1 : q1 = (u * 4294967296 + u1) / y) (hr : r1 = (u * 4294967296 + u1) % y) (h0 : q0 = (r1 * 4294967296 + u0) / y) :
  q1 * 4294967296 + q0 = ((u * 4294967296 + u1) * 4294967296 + u0) / y ∧ (r1 * 4294967296 + u0) % y = ((u * 4294967296 + u1) * 4294967296 + u0) % y :=
 two_digits_aux hy0 (by rw [h1, hr]; exact Nat.div_add_mod _ _) h0
end Go.Proofs.Ytgakmnholegbgaa.B
end
section
namespace Go.Proofs.Ytgakmnholegbgaa.B
open Go.RowKit Go.Proofs.YtgakmnholegbgaaW.PrintWords Go.Proofs.YtgakmnholegbgaaW.PrintLast Go.Proofs.YtgakmnholegbgaaW.PrintMore
set_option linter.unusedVariables false
set_option linter.unusedSimpArgs false
theorem maskN (a : Nat) (ha : a < 18446744073709551616) : bits .and .u64 (a : Int) 4294967295 = ((a % 4294967296 : Nat) : Int) := by
 have h := bits_and_u64_nat a 4294967295 ha (by omega)
 have e : a &&& 4294967295 = a % 4294967296 := Nat.and_two_pow_sub_one_eq_mod a 32
 rw [e] at h
 exact h
theorem divN (a : Nat) : (a : Int) / 4294967296 = ((a / 4294967296 : Nat) : Int) := by omega
theorem mulN (a b : Nat) : (a : Int) * (b : Int) = ((a * b : Nat) : Int) := (Int.natCast_mul a b).symm
theorem addN (a b : Nat) : (a : Int) + (b : Int) = ((a + b : Nat) : Int) := (Int.natCast_add a b).symm
theorem wrapN (a : Nat) (ha : a < 18446744073709551616) : IntKind.u64.wrap (a : Int) = (a : Int) := by rw [IntKind.wrap_u64]; omega
theorem wrapM (a : Nat) : IntKind.u64.wrap (a : Int) = ((a % 18446744073709551616 : Nat) : Int) := by rw [IntKind.wrap_u64]; omega
set_option maxHeartbeats 1000000 in
theorem mul64_any (x y : Nat) (hx : x < 18446744073709551616) (hy : y < 18446744073709551616) (w : World) :
  Calls Try.prog 74 #[.int .u64 x, .int .u64 y] w fun e w' => e = .returned (.tuple #[.int .u64 ((x * y / 18446744073709551616 : Nat) : Int), .int .u64 ((x * y % 18446744073709551616 : Nat) : Int)]) ∧ w' = w := by
 obtain ⟨bd, bt, bw, hhi⟩ := Lib.mul64_hi x y hx hy
 have ba := Lib.half_mul_le (a := x / 4294967296) (b := y / 4294967296) (by omega) (by omega)
 have bb := Lib.half_mul_le (a := x / 4294967296) (b := y % 4294967296) (by omega) (by omega)
 have bc := Lib.half_mul_le (a := x % 4294967296) (b := y / 4294967296) (by omega) (by omega)
 have ba' : x / 4294967296 * (y / 4294967296) < 18446744073709551616 := by omega
 have bb' : x / 4294967296 * (y % 4294967296) < 18446744073709551616 := by omega
 have bc' : x % 4294967296 * (y / 4294967296) < 18446744073709551616 := by omega
 have bh1 : x / 4294967296 * (y / 4294967296) + (x / 4294967296 * (y % 4294967296) + x % 4294967296 * (y % 4294967296) / 4294967296) / 4294967296 < 18446744073709551616 := by omega
 have bh : x / 4294967296 * (y / 4294967296) + (x / 4294967296 * (y % 4294967296) + x % 4294967296 * (y % 4294967296) / 4294967296) / 4294967296 + ((x / 4294967296 * (y % 4294967296) + x % 4294967296 * (y % 4294967296) / 4294967296) % 4294967296 + x % 4294967296 * (y / 4294967296)) / 4294967296 < 18446744073709551616 := by omega
 go_enter Try.func74, Try.ntmps74
 go_wp2
 simp only [maskN x hx, maskN y hy, divN, mulN, addN, wrapN _ bd, wrapN _ bb', wrapN _ bt, maskN _ bt, wrapN _ bc', wrapN _ bw, wrapN _ ba', wrapN _ bh1, wrapN _ bh, wrapM (x * y)]
 rw [hhi]
 go_ret2
 exact ⟨rfl, rfl⟩
set_option maxRecDepth 100000 in
theorem len8tab_size : (Lib.len8tab.size : Int) = 256 := by
 have : Lib.len8tab.size = 256 := by decide
 omega
theorem wrap_add (k a b : Nat) (hk : k ≤ 56) (ha : a ≤ 8) (hb : b = k + a) : RowKit.wrap64 ((k : Int) + RowKit.wrap64 (a : Int)) = (b : Int) := by
 unfold RowKit.wrap64
 omega
theorem wrap_wrap (a : Nat) (ha : a ≤ 8) : RowKit.wrap64 (RowKit.wrap64 (a : Int)) = (a : Int) := by
 unfold RowKit.wrap64
 omega
theorem wrap_one (a : Nat) (ha : a ≤ 8) : RowKit.wrap64 (a : Int) = (a : Int) := by
 unfold RowKit.wrap64
 omega
theorem len8_get (y : Int) (h : y.toNat < Lib.len8tab.size) : ((Lib.len8tab[y.toNat]'h).toNat : Int) = Lib.len8 y := by
 unfold Lib.len8
 rw [getElem?_pos Lib.len8tab y.toNat h]
 rfl
set_option maxHeartbeats 4000000 in
set_option maxRecDepth 100000 in
theorem len64_any (x : Int) (w : World) (h0 : 0 ≤ x) (h1 : x ≤ 18446744073709551615) :
    Calls Try.prog 84 #[.int .u64 x] w fun e w' => e = .returned (.int .i64 (Lib.bitLen x.toNat)) ∧ w' = w := by
  go_enter Try.func84, Try.ntmps84
  go_wp2
  all_goals first
    | (go_ret; refine ⟨congrArg Ending.returned (congrArg (Value.int IntKind.i64) ?_), rfl⟩; go_light)
    | (exfalso
       go_light
       have hs := len8tab_size
       omega)
  all_goals first
    | (rw [len8_get (x / 4294967296 / 65536 / 256) _, Lib.len8_of (x / 4294967296 / 65536 / 256) (by omega) (by omega)]
       have e : (x / 4294967296 / 65536 / 256).toNat = x.toNat / 72057594037927936 := by omega
       have l := Lib.bitLen_le8' (x / 4294967296 / 65536 / 256) (by omega) (by omega)
       have s := Lib.bitLen_shift56 x.toNat (by omega) (by omega)
       rw [e] at l ⊢
       exact wrap_add 56 _ _ (by decide) l s)
    | (rw [len8_get (x / 4294967296 / 65536) _, Lib.len8_of (x / 4294967296 / 65536) (by omega) (by omega)]
       have e : (x / 4294967296 / 65536).toNat = x.toNat / 281474976710656 := by omega
       have l := Lib.bitLen_le8' (x / 4294967296 / 65536) (by omega) (by omega)
       have s := Lib.bitLen_shift48 x.toNat (by omega) (by omega)
       rw [e] at l ⊢
       exact wrap_add 48 _ _ (by decide) l s)
    | (rw [len8_get (x / 4294967296 / 256) _, Lib.len8_of (x / 4294967296 / 256) (by omega) (by omega)]
       have e : (x / 4294967296 / 256).toNat = x.toNat / 1099511627776 := by omega
       have l := Lib.bitLen_le8' (x / 4294967296 / 256) (by omega) (by omega)
       have s := Lib.bitLen_shift40 x.toNat (by omega) (by omega)
       rw [e] at l ⊢
       exact wrap_add 40 _ _ (by decide) l s)
    | (rw [len8_get (x / 4294967296) _, Lib.len8_of (x / 4294967296) (by omega) (by omega)]
       have e : (x / 4294967296).toNat = x.toNat / 4294967296 := by omega
       have l := Lib.bitLen_le8' (x / 4294967296) (by omega) (by omega)
       have s := Lib.bitLen_shift32 x.toNat (by omega) (by omega)
       rw [e] at l ⊢
       exact wrap_add 32 _ _ (by decide) l s)
    | (rw [len8_get (x / 65536 / 256) _, Lib.len8_of (x / 65536 / 256) (by omega) (by omega)]
       have e : (x / 65536 / 256).toNat = x.toNat / 16777216 := by omega
       have l := Lib.bitLen_le8' (x / 65536 / 256) (by omega) (by omega)
       have s := Lib.bitLen_shift24 x.toNat (by omega) (by omega)
       rw [e] at l ⊢
       exact wrap_add 24 _ _ (by decide) l s)
    | (rw [len8_get (x / 65536) _, Lib.len8_of (x / 65536) (by omega) (by omega)]
       have e : (x / 65536).toNat = x.toNat / 65536 := by omega
       have l := Lib.bitLen_le8' (x / 65536) (by omega) (by omega)
       have s := Lib.bitLen_shift16 x.toNat (by omega) (by omega)
       rw [e] at l ⊢
       exact wrap_add 16 _ _ (by decide) l s)
    | (rw [len8_get (x / 256) _, Lib.len8_of (x / 256) (by omega) (by omega)]
       have e : (x / 256).toNat = x.toNat / 256 := by omega
       have l := Lib.bitLen_le8' (x / 256) (by omega) (by omega)
       have s := Lib.bitLen_shift8 x.toNat (by omega) (by omega)
       rw [e] at l ⊢
       exact wrap_add 8 _ _ (by decide) l s)
    | (rw [len8_get (x) _, Lib.len8_of (x) (by omega) (by omega)]
       have e : (x).toNat = x.toNat := by omega
       have l := Lib.bitLen_le8' (x) (by omega) (by omega)
       rw [e] at l ⊢
       first | exact wrap_wrap _ l | exact wrap_add 0 _ _ (by decide) l (by omega) | exact wrap_one _ l)
theorem bitLen_spec (x : Nat) (h0 : x ≠ 0) (h : x < 2 ^ 64) : 1 ≤ Lib.bitLen x ∧ Lib.bitLen x ≤ 64 ∧ 2 ^ (Lib.bitLen x - 1) ≤ x ∧ x < 2 ^ Lib.bitLen x := by
 induction x using Nat.strongRecOn with
 | _ x ih =>
  have hh := Lib.bitLen_half x h0 h
  by_cases h1 : x = 1
  ·subst h1
   exact ⟨by decide +kernel, by decide +kernel, by decide +kernel, by decide +kernel⟩
  ·obtain ⟨i1, i2, i3, i4⟩ := ih (x / 2) (by omega) (by omega) (by omega)
   have hle := Lib.bitLen_le x 64 (by omega) h
   refine ⟨by omega, hle, ?_, ?_⟩
   ·rw [hh, show 1 + Lib.bitLen (x / 2) - 1 = (Lib.bitLen (x / 2) - 1) + 1 by omega, Nat.pow_succ]
    omega
   ·rw [hh, Nat.add_comm, Nat.pow_succ]
    omega
set_option maxHeartbeats 400000 in
theorem zeros_any (y : Nat) (w : World) (h0 : 0 < y) (h : y < 18446744073709551616) :
  Calls Try.prog 83 #[.int .u64 (y : Int)] w fun e w' => e = .returned (.int .i64 ((64 - Lib.bitLen y : Nat) : Int)) ∧ w' = w := by
 have hs := (bitLen_spec y (by omega) h).2.1
 go_enter Try.func83, Try.ntmps83
 go_wp2_with fail
 refine (len64_any (y : Int) _ (by omega) (by omega)).mono ?_
 rw [Int.toNat_natCast]
 rintro e w' ⟨rfl, rfl⟩
 go_wp2
 go_ret
 exact ⟨ret_int (by omega), rfl⟩
theorem or_add (x y k : Nat) (hk63 : k ≤ 63) (hx : x * 2 ^ k < 2 ^ 64) (hy : y < 2 ^ k) : bits .or .u64 ((x * 2 ^ k : Nat) : Int) (y : Int) = ((x * 2 ^ k + y : Nat) : Int) := by
 have hor : x * 2 ^ k ||| y = x * 2 ^ k + y := by
  rw [Nat.mul_comm, Nat.two_pow_add_eq_or_of_lt hy]
 have hk : y < 2 ^ 64 := Nat.lt_of_lt_of_le hy (Nat.pow_le_pow_right (by omega) (by omega))
 have e : ∀ z : Nat, z < 2 ^ 64 → (BitVec.ofInt 64 (z : Int)).toNat = z := fun z hz => by rw [BitVec.ofInt_natCast, BitVec.toNat_ofNat]; exact Nat.mod_eq_of_lt hz
 have hlt : x * 2 ^ k ||| y < 2 ^ 64 := Nat.or_lt_two_pow hx hk
 show IntKind.u64.wrap ((BitVec.ofInt 64 ((x * 2 ^ k : Nat) : Int) ||| BitVec.ofInt 64 (y : Int)).toNat : Int) = _
 rw [BitVec.toNat_or, e _ hx, e y hk, hor, IntKind.wrap_u64]
 rw [hor] at hlt
 omega
structure DivC (Y1 Y0 U1 : Int) (yn y1n y0n un u1n : Nat) : Prop where
 y1 : Y1 = y1n
 y0 : Y0 = y0n
 u1 : U1 = u1n
 hy : yn = y1n * 4294967296 + y0n
 b1 : 2147483648 ≤ y1n
 b1' : y1n < 4294967296
 b0 : y0n < 4294967296
 bu : u1n < 4294967296
 lt : un < yn
theorem DivC.pos {Y1 Y0 U1 : Int} {yn y1n y0n un u1n : Nat} (h : DivC Y1 Y0 U1 yn y1n y0n un u1n) : 0 < yn := by have := h.lt; omega
def LoopRel (yn N y1n un : Nat) (v15 v16 : Value) : Prop := ∃ (q r : Int) (qn rn : Nat), v15 = .int .u64 q ∧ v16 = .int .u64 r ∧ Aside0 (q = qn) ∧ Aside0 (r = rn) ∧ Aside0 (rn < 4294967296) ∧ Aside0 (Guess yn N y1n un qn rn)
theorem round_nums {N q r : Nat} {Y1 Y0 U1 : Int} {yn y1n y0n un u1n : Nat} (h : DivC Y1 Y0 U1 yn y1n y0n un u1n) (g : Guess yn N y1n un q r) (hr : r < 4294967296) :
  IntKind.u64.wrap ((q : Int) * Y0) = (q * y0n : Nat) ∧ IntKind.u64.wrap (IntKind.u64.wrap (4294967296 * (r : Int)) + U1) = (4294967296 * r + u1n : Nat) := by
 have hp := digit_prod g.few h.b0
 have hu := h.bu
 rw [h.y0, h.u1]
 refine ⟨?_, ?_⟩
 ·rw [mulN, wrapN _ hp]
 ·rw [IntKind.wrap_u64, IntKind.wrap_u64]; omega
theorem round_stop {q r D Y1 Y0 U1 : Int} {yn y1n y0n un u1n qn rn : Nat} (h : DivC Y1 Y0 U1 yn y1n y0n un u1n) (hq : q = qn) (hr : r = rn) (hrn : rn < 4294967296) (g : Guess yn (un * 4294967296 + u1n) y1n un qn rn)
  (hD : D = ((un * 4294967296 + u1n) / yn : Nat)) (hs : q < 4294967296 ∧ IntKind.u64.wrap (q * Y0) ≤ IntKind.u64.wrap (IntKind.u64.wrap (4294967296 * r) + U1)) : q = D := by
 subst hq hr
 obtain ⟨e1, e2⟩ := round_nums h g hrn
 rw [e1, e2] at hs
 rw [hD, g.ends h.hy rfl h.pos (by omega)]
theorem round_less {q r D Y1 Y0 U1 : Int} {yn y1n y0n un u1n qn rn : Nat} (h : DivC Y1 Y0 U1 yn y1n y0n un u1n) (hq : q = qn) (hr : r = rn) (hrn : rn < 4294967296) (g : Guess yn (un * 4294967296 + u1n) y1n un qn rn)
  (hD : D = ((un * 4294967296 + u1n) / yn : Nat)) (hs : 4294967296 ≤ q ∨ IntKind.u64.wrap (IntKind.u64.wrap (4294967296 * r) + U1) < IntKind.u64.wrap (q * Y0)) :
  (4294967296 ≤ IntKind.u64.wrap (r + Y1) → IntKind.u64.wrap (q - 1) = D) ∧
  (IntKind.u64.wrap (r + Y1) < 4294967296 → LoopRel yn (un * 4294967296 + u1n) y1n un (.int .u64 (IntKind.u64.wrap (q - 1))) (.int .u64 (IntKind.u64.wrap (r + Y1))) ∧ (IntKind.u64.wrap (q - 1)).toNat < q.toNat) := by
 subst hq hr
 obtain ⟨e1, e2⟩ := round_nums h g hrn
 rw [e1, e2] at hs
 have hy1 := h.y1
 subst hy1
 have hq1 : (un * 4294967296 + u1n) / yn < 4294967296 := digit_lt rfl h.lt h.bu
 obtain ⟨hq0, g'⟩ := g.less h.hy rfl h.pos hq1 (by omega)
 have hf := g.few
 have hb := h.b1'
 have e3 : IntKind.u64.wrap ((qn : Int) - 1) = (qn - 1 : Nat) := by rw [IntKind.wrap_u64]; omega
 have e4 : IntKind.u64.wrap ((rn : Int) + (y1n : Int)) = (rn + y1n : Nat) := by rw [IntKind.wrap_u64]; omega
 rw [e3, e4]
 refine ⟨fun hfar => ?_, fun hnear => ⟨⟨_, _, qn - 1, rn + y1n, rfl, rfl, ⟨rfl⟩, ⟨rfl⟩, ⟨by omega⟩, ⟨g'⟩⟩, by omega⟩⟩
 rw [hD, g'.far h.hy rfl h.b0 h.pos (by omega)]
set_option maxHeartbeats 4000000 in
set_option maxRecDepth 100000 in
theorem div64_z (hi lo y s Y Y1 Y0 U T U1 U0 Q R D1 M Q2 R2 D0 QUO REM : Int) (yn y1n y0n un u1n mn u0n qn rn q2n r2n : Nat) (w : World) (k1 : ¬ (y = 0)) (k2 : hi < y) (k3 : ¬ (hi = 0)) (k4 : ¬ (Y1 = 0)) (hs0 : 0 ≤ s) (hs : s ≤ 63)
 (E1 : IntKind.u64.wrap (y * 2 ^ s.toNat) = Y) (E2 : Y / 4294967296 = Y1)
 (E3 : bits .and .u64 Y 4294967295 = Y0) (E4 : bits .or .u64 (IntKind.u64.wrap (hi * 2 ^ s.toNat)) (lo / 2 ^ (64 - s).toNat) = U) (E5 : IntKind.u64.wrap (lo * 2 ^ s.toNat) = T) (E6 : T / 4294967296 = U1)
 (E7 : bits .and .u64 T 4294967295 = U0) (E8 : IntKind.u64.wrap (U.tdiv Y1) = Q) (E9 : IntKind.u64.wrap (U - IntKind.u64.wrap (Q * Y1)) = R)
 (HC : Aside0 (DivC Y1 Y0 U1 yn y1n y0n un u1n)) (HR : Aside0 (rn < 4294967296)) (C1 : Aside0 (Q = qn)) (C2 : Aside0 (R = rn))
 (HG : Aside0 (Guess yn (un * 4294967296 + u1n) y1n un qn rn)) (HD1 : Aside0 (D1 = ((un * 4294967296 + u1n) / yn : Nat)))
 (F1 : Aside0 (IntKind.u64.wrap (IntKind.u64.wrap (IntKind.u64.wrap (U * 4294967296) + U1) - IntKind.u64.wrap (D1 * Y)) = M))
 (F2 : Aside0 (IntKind.u64.wrap (M.tdiv Y1) = Q2)) (F3 : Aside0 (IntKind.u64.wrap (M - IntKind.u64.wrap (Q2 * Y1)) = R2))
 (HC2 : Aside0 (DivC Y1 Y0 U0 yn y1n y0n mn u0n)) (HR2 : Aside0 (r2n < 4294967296)) (C12 : Aside0 (Q2 = q2n)) (C22 : Aside0 (R2 = r2n))
 (HG2 : Aside0 (Guess yn (mn * 4294967296 + u0n) y1n mn q2n r2n)) (HD2 : Aside0 (D0 = ((mn * 4294967296 + u0n) / yn : Nat)))
 (F4 : Aside0 (IntKind.u64.wrap (IntKind.u64.wrap (D1 * 4294967296) + D0) = QUO))
 (F5 : Aside0 (IntKind.u64.wrap (IntKind.u64.wrap (IntKind.u64.wrap (M * 4294967296) + U0) - IntKind.u64.wrap (D0 * Y)) / 2 ^ s.toNat = REM))
 (HL : Aside0 (∀ w, Calls Try.prog 83 #[.int .u64 y] w fun e w' => e = .returned (.int .i64 s) ∧ w' = w)) :
  Calls Try.prog 82 #[.int .u64 hi, .int .u64 lo, .int .u64 y] w fun e w' => e = .returned (.tuple #[.int .u64 QUO, .int .u64 REM]) ∧ w' = w := by
 go_enter Try.func82, Try.ntmps82
 go_wp2_with fail
 refine (HL.out _).mono ?_
 rintro e w' ⟨rfl, rfl⟩
 go_upto_block 0 with fail
 clear E1 E2 E3 E4 E5 E6 E7 E8 E9
 go_cut [15, 16] (fun v15 v16 w1 => w1 = w' ∧ v15 = .int .u64 D1)
 case first =>
  go_wp2_with fail
  go_loop [15, 16] (fun v15 v16 => LoopRel yn (un * 4294967296 + u1n) y1n un v15 v16) (fun v15 v16 => (intOf v15).toNat)
  case atStart => exact ⟨Q, R, qn, rn, rfl, rfl, C1, C2, HR, HG⟩
  case round =>
   obtain ⟨q, r, qn, rn, rfl, rfl, QN, RN, hr, g⟩ := hrel
   have LS := Aside0.mk (round_stop HC.out QN.out RN.out hr.out g.out HD1.out)
   have LL := Aside0.mk (round_less HC.out QN.out RN.out hr.out g.out HD1.out)
   clear QN RN hr g
   go_wp2_with fail
   ·have c : 4294967296 ≤ q ∨ IntKind.u64.wrap (IntKind.u64.wrap (4294967296 * r) + U1) < IntKind.u64.wrap (q * Y0) := by assumption
    have c2 : 4294967296 ≤ IntKind.u64.wrap (r + Y1) := by assumption
    have e := (LL.out c).1 c2
    go_meet
    exact ⟨rfl, by rw [e]⟩
   ·have c : 4294967296 ≤ q ∨ IntKind.u64.wrap (IntKind.u64.wrap (4294967296 * r) + U1) < IntKind.u64.wrap (q * Y0) := by assumption
    have c2 : IntKind.u64.wrap (r + Y1) < 4294967296 := by assumption
    exact (LL.out c).2 c2
   ·have c : q < 4294967296 ∧ IntKind.u64.wrap (q * Y0) ≤ IntKind.u64.wrap (IntKind.u64.wrap (4294967296 * r) + U1) := by assumption
    have e := LS.out c
    go_meet
    exact ⟨rfl, by rw [e]⟩
   ·have c2 : 4294967296 ≤ IntKind.u64.wrap (r + Y1) := by assumption
    have e := (LL.out (.inl (by assumption))).1 c2
    go_meet
    exact ⟨rfl, by rw [e]⟩
   ·have c : ¬ (q < 4294967296) := by assumption
    have c2 : IntKind.u64.wrap (r + Y1) < 4294967296 := by assumption
    exact (LL.out (.inl (by omega))).2 c2
 case rest =>
  obtain ⟨rfl, rfl⟩ := hcut
  have f1 := F1.out
  have f2 := F2.out
  have f3 := F3.out
  go_upto_block 2 with fail
  clear f1 f2 f3
  go_cut [18, 16] (fun v15 v16 w1 => w1 = wc ∧ v15 = .int .u64 D0)
  case first =>
   go_wp2_with fail
   go_loop [18, 16] (fun v15 v16 => LoopRel yn (mn * 4294967296 + u0n) y1n mn v15 v16) (fun v15 v16 => (intOf v15).toNat)
   case atStart => exact ⟨Q2, R2, q2n, r2n, rfl, rfl, C12, C22, HR2, HG2⟩
   case round =>
    obtain ⟨q, r, qn, rn, rfl, rfl, QN, RN, hr, g⟩ := hrel
    have LS := Aside0.mk (round_stop HC2.out QN.out RN.out hr.out g.out HD2.out)
    have LL := Aside0.mk (round_less HC2.out QN.out RN.out hr.out g.out HD2.out)
    clear QN RN hr g
    go_wp2_with fail
    ·have c : 4294967296 ≤ q ∨ IntKind.u64.wrap (IntKind.u64.wrap (4294967296 * r) + U0) < IntKind.u64.wrap (q * Y0) := by assumption
     have c2 : 4294967296 ≤ IntKind.u64.wrap (r + Y1) := by assumption
     have e := (LL.out c).1 c2
     go_meet
     exact ⟨rfl, by rw [e]⟩
    ·have c : 4294967296 ≤ q ∨ IntKind.u64.wrap (IntKind.u64.wrap (4294967296 * r) + U0) < IntKind.u64.wrap (q * Y0) := by assumption
     have c2 : IntKind.u64.wrap (r + Y1) < 4294967296 := by assumption
     exact (LL.out c).2 c2
    ·have c : q < 4294967296 ∧ IntKind.u64.wrap (q * Y0) ≤ IntKind.u64.wrap (IntKind.u64.wrap (4294967296 * r) + U0) := by assumption
     have e := LS.out c
     go_meet
     exact ⟨rfl, by rw [e]⟩
    ·have c2 : 4294967296 ≤ IntKind.u64.wrap (r + Y1) := by assumption
     have e := (LL.out (.inl (by assumption))).1 c2
     go_meet
     exact ⟨rfl, by rw [e]⟩
    ·have c : ¬ (q < 4294967296) := by assumption
     have c2 : IntKind.u64.wrap (r + Y1) < 4294967296 := by assumption
     exact (LL.out (.inl (by omega))).2 c2
  case rest =>
   obtain ⟨rfl, rfl⟩ := hcut
   have f4 := F4.out
   have f5 := F5.out
   go_wp2_with fail
   go_ret2
   exact ⟨rfl, rfl⟩
theorem shifted (hi lo s : Nat) (hs : s ≤ 63) (hlo : lo < 2 ^ 64) :
  (hi * 2 ^ s + lo / 2 ^ (64 - s)) * 2 ^ 64 + lo * 2 ^ s % 2 ^ 64 = (hi * 2 ^ 64 + lo) * 2 ^ s ∧ lo / 2 ^ (64 - s) < 2 ^ s := by
 have e64 : (2 : Nat) ^ 64 = 2 ^ (64 - s) * 2 ^ s := by rw [← Nat.pow_add]; congr 1; omega
 have hd := Nat.div_add_mod lo (2 ^ (64 - s))
 have hm := Nat.mod_lt lo (show 0 < 2 ^ (64 - s) from Nat.two_pow_pos _)
 have hp : 0 < 2 ^ s := Nat.two_pow_pos _
 rw [e64] at hlo ⊢
 generalize 2 ^ (64 - s) = A at *
 generalize 2 ^ s = B at *
 have hA : 0 < A := by omega
 refine ⟨?_, ?_⟩
 ·rw [Nat.mul_mod_mul_right]
  generalize lo / A = q at *
  generalize lo % A = r at *
  subst hd
  simp only [Nat.add_mul, Nat.mul_assoc, Nat.add_assoc]
  rw [Nat.mul_left_comm B A B]
  rw [Nat.mul_left_comm q A B]
 ·rw [Nat.div_lt_iff_lt_mul hA, Nat.mul_comm]
  exact hlo
theorem wrap_step (u u1 d y m : Nat) (h : u * 4294967296 + u1 = d * y + m) (hm : m < 18446744073709551616) :
  IntKind.u64.wrap (IntKind.u64.wrap (IntKind.u64.wrap ((u : Int) * 4294967296) + u1) - IntKind.u64.wrap ((d : Int) * y)) = m := by
 rw [mulN d y]
 generalize d * y = p at *
 simp only [IntKind.wrap_u64]
 omega
theorem guess_wrap (u y1 : Nat) (h : u / y1 < 18446744073709551616) (hu : u < 18446744073709551616) :
  IntKind.u64.wrap ((u : Int).tdiv y1) = (u / y1 : Nat) ∧ IntKind.u64.wrap ((u : Int) - IntKind.u64.wrap (((u / y1 : Nat) : Int) * y1)) = (u % y1 : Nat) := by
 have hd := Nat.div_add_mod u y1
 have e1 : ((u : Int).tdiv y1) = ((u / y1 : Nat) : Int) := by
  rw [Int.tdiv_eq_ediv_of_nonneg (by omega)]
  exact (Int.natCast_ediv u y1).symm
 refine ⟨by rw [e1, wrapN _ h], ?_⟩
 rw [mulN, Nat.mul_comm (u / y1) y1]
 generalize y1 * (u / y1) = p at *
 generalize u % y1 = r at *
 simp only [IntKind.wrap_u64]
 omega
theorem wrap_quo (d1 d0 : Nat) (h : d1 * 4294967296 + d0 < 18446744073709551616) : IntKind.u64.wrap (IntKind.u64.wrap ((d1 : Int) * 4294967296) + d0) = (d1 * 4294967296 + d0 : Nat) := by
 simp only [IntKind.wrap_u64]
 omega
set_option maxHeartbeats 1000000 in
theorem div64_core (hi lo y s un t u1 u0 y1 y0 yn mn d1 d0 rem : Nat) (p : Int) (h1 : 0 < hi) (h2 : hi < y) (hs : s ≤ 63) (w : World) (hp : p = 2 ^ s) (hp0 : 0 < p)
  (E1 : IntKind.u64.wrap ((y : Int) * 2 ^ (s : Int).toNat) = (yn : Int)) (E4 : bits .or .u64 (IntKind.u64.wrap ((hi : Int) * 2 ^ (s : Int).toNat)) ((lo : Int) / 2 ^ (64 - (s : Int)).toNat) = (un : Int))
  (E5 : IntKind.u64.wrap ((lo : Int) * 2 ^ (s : Int).toNat) = (t : Int)) (hyn : 9223372036854775808 ≤ yn) (hyn' : yn < 18446744073709551616) (ht : t < 18446744073709551616) (hlt : un < yn)
  (a1 : u1 = t / 4294967296) (a2 : u0 = t % 4294967296) (a3 : y1 = yn / 4294967296) (a4 : y0 = yn % 4294967296)
  (b1 : d1 = (un * 4294967296 + u1) / yn) (b2 : mn = (un * 4294967296 + u1) % yn) (b3 : d0 = (mn * 4294967296 + u0) / yn) (b4 : rem = (mn * 4294967296 + u0) % yn)
  (hq : d1 * 4294967296 + d0 < 18446744073709551616)
  (hl : ∀ w, Calls Try.prog 83 #[.int .u64 (y : Int)] w fun e w' => e = .returned (.int .i64 (s : Int)) ∧ w' = w) :
  Calls Try.prog 82 #[.int .u64 hi, .int .u64 lo, .int .u64 y] w fun e w' => e = .returned (.tuple #[.int .u64 (d1 * 4294967296 + d0 : Nat), .int .u64 ((rem : Int) / 2 ^ (s : Int).toNat)]) ∧ w' = w := by
 have h0 : 0 < yn := by omega
 have hyy : yn = y1 * 4294967296 + y0 := by omega
 have hm1 : mn < yn := by rw [b2]; exact Nat.mod_lt _ h0
 have hd1 : un * 4294967296 + u1 = d1 * yn + mn := by rw [Nat.mul_comm d1 yn, b1, b2]; exact (Nat.div_add_mod _ _).symm
 have hd2 : mn * 4294967296 + u0 = d0 * yn + rem := by rw [Nat.mul_comm d0 yn, b3, b4]; exact (Nat.div_add_mod _ _).symm
 have hrm : rem < yn := by rw [b4]; exact Nat.mod_lt _ h0
 have C1 : DivC (y1 : Int) (y0 : Int) (u1 : Int) yn y1 y0 un u1 := ⟨rfl, rfl, rfl, hyy, by omega, by omega, by omega, by omega, hlt⟩
 have C2 : DivC (y1 : Int) (y0 : Int) (u0 : Int) yn y1 y0 mn u0 := ⟨rfl, rfl, rfl, hyy, by omega, by omega, by omega, by omega, hm1⟩
 have G1 := Guess.first (y := yn) (N := un * 4294967296 + u1) (yn1 := y1) (yn0 := y0) (u := un) (u1 := u1) hyy rfl C1.b0 C1.b1 C1.b1' hlt C1.bu
 have G2 := Guess.first (y := yn) (N := mn * 4294967296 + u0) (yn1 := y1) (yn0 := y0) (u := mn) (u1 := u0) hyy rfl C2.b0 C2.b1 C2.b1' hm1 C2.bu
 have f1 := G1.few
 have f2 := G2.few
 obtain ⟨g1, g2⟩ := guess_wrap un y1 (by omega) (by omega)
 obtain ⟨g3, g4⟩ := guess_wrap mn y1 (by omega) (by omega)
 have hmr1 := Nat.mod_lt un (show 0 < y1 by omega)
 have hmr2 := Nat.mod_lt mn (show 0 < y1 by omega)
 have W1 := wrap_step un u1 d1 yn mn hd1 (by omega)
 have W2 := wrap_step mn u0 d0 yn rem hd2 (by omega)
 have M1 := maskN yn hyn'
 have M2 := maskN t ht
 rw [← a4] at M1
 rw [← a2] at M2
 exact div64_z hi lo y s yn y1 y0 un t u1 u0 (un / y1 : Nat) (un % y1 : Nat) d1 mn (mn / y1 : Nat) (mn % y1 : Nat) d0 _ _
  yn y1 y0 un u1 mn u0 _ _ _ _ w (by omega) (by omega) (by omega) (by omega) (by omega) (by omega) E1 (by omega) M1 E4 E5 (by omega) M2 g1 g2 ⟨C1⟩ ⟨by omega⟩ ⟨rfl⟩ ⟨rfl⟩ ⟨G1⟩ ⟨by rw [b1]⟩ ⟨W1⟩ ⟨g3⟩ ⟨g4⟩ ⟨C2⟩ ⟨by omega⟩ ⟨rfl⟩ ⟨rfl⟩ ⟨G2⟩ ⟨by rw [b3]⟩ ⟨wrap_quo d1 d0 hq⟩ ⟨by rw [W2]⟩ ⟨hl⟩
theorem div64_pos (hi lo y : Nat) (h1 : 0 < hi) (h2 : hi < y) (hy : y < 18446744073709551616) (hlo : lo < 18446744073709551616) (w : World) :
  Calls Try.prog 82 #[.int .u64 hi, .int .u64 lo, .int .u64 y] w fun e w' => e = .returned (.tuple #[.int .u64 ((hi * 18446744073709551616 + lo) / y : Nat), .int .u64 ((hi * 18446744073709551616 + lo) % y : Nat)]) ∧ w' = w := by
 have hl := fun w => zeros_any y w (by omega) hy
 obtain ⟨b1, b2, b3, b4⟩ := bitLen_spec y (by omega) (show y < 2 ^ 64 from hy)
 have hs : 64 - Lib.bitLen y ≤ 63 := by omega
 have hb : Lib.bitLen y = 64 - (64 - Lib.bitLen y) := by omega
 generalize 64 - Lib.bitLen y = s at *
 rw [hb] at b3 b4
 clear b1 b2 hb
 have hp : 0 < 2 ^ s := Nat.two_pow_pos _
 have y63 : 2 ^ 63 ≤ y * 2 ^ s := by
  have := Nat.mul_le_mul_right (2 ^ s) b3
  rw [← Nat.pow_add] at this
  rwa [show 64 - s - 1 + s = 63 by omega] at this
 have y64 : y * 2 ^ s < 2 ^ 64 := by
  have := Nat.mul_lt_mul_of_pos_right b4 hp
  rw [← Nat.pow_add] at this
  rwa [show 64 - s + s = 64 by omega] at this
 obtain ⟨hsh, hlo2⟩ := shifted hi lo s hs (show lo < 2 ^ 64 from hlo)
 have hhi : hi * 2 ^ s < 2 ^ 64 := Nat.lt_of_le_of_lt (Nat.mul_le_mul_right _ (by omega)) y64
 have hor := or_add hi (lo / 2 ^ (64 - s)) s hs hhi hlo2
 have cast2 : ∀ k : Nat, ((2 ^ k : Nat) : Int) = 2 ^ k := fun k => by rw [Int.natCast_pow]; rfl
 have E1 : IntKind.u64.wrap ((y : Int) * 2 ^ (s : Int).toNat) = ((y * 2 ^ s : Nat) : Int) := by
  rw [Int.toNat_natCast, ← cast2, mulN, wrapN _ y64]
 have E4 : bits .or .u64 (IntKind.u64.wrap ((hi : Int) * 2 ^ (s : Int).toNat)) ((lo : Int) / 2 ^ (64 - (s : Int)).toNat) = ((hi * 2 ^ s + lo / 2 ^ (64 - s) : Nat) : Int) := by
  rw [Int.toNat_natCast, show (64 - (s : Int)).toNat = 64 - s by omega, ← cast2, ← cast2, mulN, wrapN _ hhi, ← Int.natCast_ediv, hor]
 have E5 : IntKind.u64.wrap ((lo : Int) * 2 ^ (s : Int).toNat) = ((lo * 2 ^ s % 2 ^ 64 : Nat) : Int) := by
  rw [Int.toNat_natCast, ← cast2, mulN, wrapM]
 have p64 : (2 : Nat) ^ 64 = 18446744073709551616 := by decide
 have hlt : (hi * 2 ^ s + lo / 2 ^ (64 - s)) < y * 2 ^ s := by
  have q1 : hi * 2 ^ 64 + lo < y * 2 ^ 64 := by omega
  have q2 := Nat.mul_lt_mul_of_pos_right q1 hp
  rw [← hsh, Nat.mul_right_comm] at q2
  omega
 obtain ⟨N, hN⟩ : ∃ N, N = hi * 2 ^ 64 + lo := ⟨_, rfl⟩
 have hN1 : N * 2 ^ s / (y * 2 ^ s) = N / y := Nat.mul_div_mul_right _ _ hp
 have hN2 : N * 2 ^ s % (y * 2 ^ s) = N % y * 2 ^ s := Nat.mul_mod_mul_right _ _ _
 have hqlt : N / y < 2 ^ 64 := by
  rw [Nat.div_lt_iff_lt_mul (by omega)]
  omega
 have htt : lo * 2 ^ s % 2 ^ 64 < 2 ^ 64 := Nat.mod_lt _ (by decide)
 rw [← hN] at hsh
 have hNN : hi * 18446744073709551616 + lo = N := by rw [hN, p64]
 rw [p64] at hsh
 rw [hNN]
 clear hor hhi hlo2 b3 b4 hN hNN
 obtain ⟨t, et⟩ : ∃ t, t = lo * 2 ^ s % 2 ^ 64 := ⟨_, rfl⟩
 obtain ⟨un, eu⟩ : ∃ t, t = hi * 2 ^ s + lo / 2 ^ (64 - s) := ⟨_, rfl⟩
 obtain ⟨yn, ey⟩ : ∃ t, t = y * 2 ^ s := ⟨_, rfl⟩
 rw [← et] at E5 htt hsh
 rw [← eu] at E4 hsh hlt
 rw [← ey] at E1 y63 y64 hlt hN1 hN2
 clear et eu ey
 obtain ⟨u1, e1⟩ : ∃ u1, u1 = t / 4294967296 := ⟨_, rfl⟩
 obtain ⟨u0, e0⟩ : ∃ u1, u1 = t % 4294967296 := ⟨_, rfl⟩
 obtain ⟨mn, hmn⟩ : ∃ mn, mn = (un * 4294967296 + u1) % yn := ⟨_, rfl⟩
 obtain ⟨d1, hd1⟩ : ∃ mn, mn = (un * 4294967296 + u1) / yn := ⟨_, rfl⟩
 obtain ⟨d0, hd0⟩ : ∃ d0, d0 = (mn * 4294967296 + u0) / yn := ⟨_, rfl⟩
 obtain ⟨rem, hrem⟩ : ∃ d0, d0 = (mn * 4294967296 + u0) % yn := ⟨_, rfl⟩
 obtain ⟨r1, r2⟩ := two_digits (y := yn) (u := un) (u1 := u1) (u0 := u0) (by omega) hd1 hmn hd0
 have e32 : (un * 4294967296 + u1) * 4294967296 + u0 = N * 2 ^ s := by
  rw [← hsh, e1, e0]
  clear r1 r2 hrem hd0 hd1 hmn hN1 hN2 E1 E4 E5 hqlt hsh hlt hl hp cast2
  omega
 rw [e32, hN1] at r1
 rw [e32, hN2, ← hrem] at r2
 refine (div64_core hi lo y s un t u1 u0 (yn / 4294967296) (yn % 4294967296) yn mn d1 d0 rem (2 ^ s) h1 h2 hs w rfl (by have := cast2 s; omega) E1 E4 E5 (by omega) (by omega) (by omega) hlt e1 e0 rfl rfl hd1 hmn hd0 hrem (by omega) hl).mono ?_
 rintro e w' ⟨rfl, rfl⟩
 rw [r1, r2, Int.toNat_natCast, ← cast2, ← Int.natCast_ediv, Nat.mul_div_cancel _ hp]
 exact ⟨rfl, rfl⟩
set_option maxHeartbeats 1000000 in
theorem div64_zero (lo y : Nat) (hy0 : 0 < y) (hlo : lo < 18446744073709551616) (w : World) :
  Calls Try.prog 82 #[.int .u64 0, .int .u64 lo, .int .u64 y] w fun e w' => e = .returned (.tuple #[.int .u64 (lo / y : Nat), .int .u64 (lo % y : Nat)]) ∧ Drawn0 w w' := by
 have E1 : IntKind.u64.wrap ((lo : Int).tdiv y) = (lo / y : Nat) := by
  rw [Int.tdiv_eq_ediv_of_nonneg (by omega), ← Int.natCast_ediv, wrapN _ (Nat.lt_of_le_of_lt (Nat.div_le_self _ _) hlo)]
 have E2 : (lo : Int).tmod y = (lo % y : Nat) := by
  rw [Int.tmod_eq_emod_of_nonneg (by omega), ← Int.natCast_emod]
 obtain ⟨Q, hQ⟩ : ∃ Q : Int, Q = ((lo / y : Nat) : Int) := ⟨_, rfl⟩
 obtain ⟨R, hR⟩ : ∃ Q : Int, Q = ((lo % y : Nat) : Int) := ⟨_, rfl⟩
 obtain ⟨L, hL⟩ : ∃ Q : Int, Q = (lo : Int) := ⟨_, rfl⟩
 obtain ⟨Y, hY⟩ : ∃ Q : Int, Q = (y : Int) := ⟨_, rfl⟩
 have k1 : ¬ (Y = 0) := by omega
 have k2 : 0 < Y := by omega
 rw [← hQ, ← hL, ← hY] at E1
 rw [← hR, ← hL, ← hY] at E2
 rw [← hQ, ← hR, ← hL, ← hY]
 clear hQ hR hL hY
 go_enter Try.func82, Try.ntmps82
 go_wp2_with fail
 go_region
 all_goals go_wp2_with fail
 all_goals go_ret2
 all_goals exact ⟨rfl, ⟨1, rfl⟩⟩
end Go.Proofs.Ytgakmnholegbgaa.B
end
section
namespace Go.Proofs.Ytgakmnholegbgaa.B
open Go.RowKit Go.Proofs.YtgakmnholegbgaaW.PrintWords Go.Proofs.YtgakmnholegbgaaW.PrintLast Go.Proofs.YtgakmnholegbgaaW.PrintMore
set_option linter.unusedVariables false
set_option linter.unusedSimpArgs false
theorem div64_any (hi lo y : Nat) (h2 : hi < y) (hy : y < 18446744073709551616) (hlo : lo < 18446744073709551616) (w : World) :
  Calls Try.prog 82 #[.int .u64 hi, .int .u64 lo, .int .u64 y] w fun e w' => e = .returned (.tuple #[.int .u64 ((hi * 18446744073709551616 + lo) / y : Nat), .int .u64 ((hi * 18446744073709551616 + lo) % y : Nat)]) ∧ Drawn0 w w' := by
 rcases Nat.eq_zero_or_pos hi with h | h
 ·subst h
  rw [show 0 * 18446744073709551616 + lo = lo by omega]
  exact div64_zero lo y h2 hlo w
 ·exact (div64_pos hi lo y h h2 hy hlo w).mono fun e w' ⟨h1, h2⟩ => ⟨h1, by rw [h2]; exact Drawn0.refl _⟩
theorem size_any (a : Int) (ha : I64 a) (w : World) : Calls Try.prog 75 #[.int .i64 a] w fun e w' => e = .returned (.int .u64 (a.natAbs : Int)) ∧ w' = w := by
 unfold I64 at ha
 by_cases h : a < 0
 ·have hn : decide (a < 0) = true := by simp [h]
  have e : IntKind.u64.wrap (- IntKind.u64.wrap a) = (a.natAbs : Int) := by rw [IntKind.wrap_u64, IntKind.wrap_u64]; omega
  have E := Aside0.mk e
  clear e
  go_enter Try.func75, Try.ntmps75
  go_wp2
  go_ret
  exact ⟨ret_int E.out, rfl⟩
 ·have hn : decide (a < 0) = false := by simp; omega
  have e : IntKind.u64.wrap a = (a.natAbs : Int) := by rw [IntKind.wrap_u64]; omega
  have E := Aside0.mk e
  clear e
  go_enter Try.func75, Try.ntmps75
  go_wp2
  go_ret
  exact ⟨ret_int (by have := E.out; first | exact this | (rw [IntKind.wrap_u64] at this; omega)), rfl⟩
def upB (left c : Nat) (below : Bool) (how : Int) : Bool :=
 if how = 1 then below && decide (0 < left) else if how = 3 then !below && decide (0 < left) else if below = true then decide (c - left < left) else decide (0 < left) && decide (c - left ≤ left)
theorem ret_bool {a b : Bool} (h : a = b) : Ending.returned (.bool a) = .returned (.bool b) := by rw [h]
set_option maxHeartbeats 1000000 in
theorem up_any (left c : Nat) (below : Bool) (how : Int) (h : left ≤ c) (hc : c < 18446744073709551616) (w : World) :
  Calls Try.prog 77 #[.int .u64 left, .int .u64 c, .bool below, .int .i64 how] w fun e w' => e = .returned (.bool (upB left c below how)) ∧ w' = w := by
 obtain ⟨L, hL⟩ : ∃ L : Int, L = (left : Int) := ⟨_, rfl⟩
 obtain ⟨C, hC⟩ : ∃ L : Int, L = (c : Int) := ⟨_, rfl⟩
 obtain ⟨D, hD⟩ : ∃ L : Int, L = ((c - left : Nat) : Int) := ⟨_, rfl⟩
 have e : IntKind.u64.wrap (C - L) = D := by rw [IntKind.wrap_u64]; omega
 have e0 : decide (0 < left) = decide (0 < L) := by rw [decide_eq_decide]; omega
 have e1 : decide (c - left < left) = decide (D < L) := by rw [decide_eq_decide]; omega
 have e2 : decide (c - left ≤ left) = decide (D ≤ L) := by rw [decide_eq_decide]; omega
 obtain ⟨R, hR⟩ : ∃ R, R = upB left c below how := ⟨_, rfl⟩
 have hR2 := hR
 rw [← hL, ← hC, ← hR]
 unfold upB at hR2
 rw [e0, e1, e2] at hR2
 have HR := Aside0.mk hR2
 clear hL hC hD hR hR2 e0 e1 e2
 by_cases h1 : how = 1
 ·have d1 : (how == 1) = true := by simp [h1]
  rw [if_pos h1] at HR
  clear h1
  cases below
  all_goals
   go_enter Try.func77, Try.ntmps77
   go_wp2
   all_goals go_ret
   all_goals exact ⟨ret_bool (by rw [HR.out]; simp), rfl⟩
 ·have d1 : (how == 1) = false := by simp [h1]
  rw [if_neg h1] at HR
  clear h1
  by_cases h3 : how = 3
  ·have d3 : (how == 3) = true := by simp [h3]
   rw [if_pos h3] at HR
   clear h3
   cases below
   all_goals
    go_enter Try.func77, Try.ntmps77
    go_wp2
    all_goals go_ret
    all_goals exact ⟨ret_bool (by rw [HR.out]; simp), rfl⟩
  ·have d3 : (how == 3) = false := by simp [h3]
   rw [if_neg h3] at HR
   clear h3
   cases below
   all_goals
    go_enter Try.func77, Try.ntmps77
    go_wp2
    all_goals go_ret
    all_goals refine ⟨ret_bool ?_, rfl⟩
    all_goals first | (rw [HR.out]; simp; done) | (rw [HR.out]; simp_all; done) | (rw [HR.out]; simp; omega)
def DivJ (w : World) (N0 N1 C Q0 R0 : Int) (a' : Act) (w' : World) : Prop :=
 ∃ (nd : Nat) (q9 q10 q11 q12 q13 q14 q15 q16 q17 q18 q19 q20 q21 q22 q23 q24 q25 : Value), a' = { tmps := #[.agg #[.int .u64 N0, .int .u64 N1], .int .u64 C, .pointer (some ⟨w.heap.size, 0, none⟩), undef, .pointer (some ⟨w.heap.size + 1, 0, none⟩), .int .u64 0, .pointer (some ⟨w.heap.size + 1 + 1, 0, none⟩), .int .u64 R0, .int .i64 1, q9, q10, q11, q12, q13, q14, q15, q16, q17, q18, q19, q20, q21, q22, q23, q24, q25], defers := [] } ∧
  w' = ((((w.alloc (.cells #[.int .u64 N0, .int .u64 N1] 149)).alloc (.cells #[.int .u64 0, .int .u64 0] 149)).alloc (.cells #[.int .u64 0, .int .u64 0] 149)).drewN nd).setCell ⟨w.heap.size + 1 + 1, 0, none⟩ (.int .u64 Q0)
set_option maxHeartbeats 1000000 in
theorem divided_walk (N0 N1 C Q0 R0 Q1 R1 : Int) (w : World)
  (hd0 : Aside0 (∀ w, Calls Try.prog 82 #[.int .u64 0, .int .u64 N0, .int .u64 C] w fun e w' => e = .returned (.tuple #[.int .u64 Q0, .int .u64 R0]) ∧ Drawn0 w w'))
  (hd1 : Aside0 (∀ w, Calls Try.prog 82 #[.int .u64 R0, .int .u64 N1, .int .u64 C] w fun e w' => e = .returned (.tuple #[.int .u64 Q1, .int .u64 R1]) ∧ Drawn0 w w')) :
  Calls Try.prog 76 #[.agg #[.int .u64 N0, .int .u64 N1], .int .u64 C] w fun e w' => e = .returned (.tuple #[.agg #[.int .u64 Q0, .int .u64 Q1], .int .u64 R1]) ∧ Below w.heap.size w w' := by
 go_enter Try.func76, Try.ntmps76
 go_wp2
 refine wp_scope_jumps 0 (DivJ w N0 N1 C Q0 R0) (fun a' _ => (2 - intOf (a'.tmps.getD 8 undef)).toNat) rfl ?_ ?_
 ·go_wp2
  go_step3
  go_wp2_with fail
  refine (hd0.out _).mono ?_
  rintro e w1 ⟨rfl, ⟨nd, rfl⟩⟩
  go_wp2_with fail
  go_step3
  exact ⟨rfl, nd, _, _, _, _, _, _, _, _, _, _, _, _, _, _, _, _, _, rfl, rfl⟩
 ·rintro a' w' ⟨nd, q9, q10, q11, q12, q13, q14, q15, q16, q17, q18, q19, q20, q21, q22, q23, q24, q25, rfl, rfl⟩
  go_wp2_with fail
  refine (hd1.out _).mono ?_
  rintro e w1 ⟨rfl, ⟨nd1, rfl⟩⟩
  go_wp2_with fail
  simp only [Exit.jump]
  refine bodyPost_ret (v := .tuple #[.agg #[.int .u64 Q0, .int .u64 Q1], .int .u64 R1]) (by simp [results, Try.results76, go_sem]) rfl ⟨rfl, ?_⟩
  exact ((((((((((Below.refl _ _).alloc (Nat.le_refl _) _).alloc (by simp) _).alloc (by simp; omega) _).trans (pw_below_drewN (Below.refl _ _) _)).setCell (by simp; omega) _).trans (pw_below_drewN (Below.refl _ _) _)).setCell (by simp; omega) _).setCell (by simp) _).setCell (by simp) _)
theorem divided_any (n0 n1 c : Nat) (h0 : n0 < 18446744073709551616) (h1 : n1 < 18446744073709551616) (hc0 : 0 < c) (hc : c < 18446744073709551616) (w : World) :
  Calls Try.prog 76 #[.agg #[.int .u64 n0, .int .u64 n1], .int .u64 c] w fun e w' =>
   e = .returned (.tuple #[.agg #[.int .u64 (n0 / c : Nat), .int .u64 ((n0 % c * 18446744073709551616 + n1) / c : Nat)], .int .u64 ((n0 % c * 18446744073709551616 + n1) % c : Nat)]) ∧ Below w.heap.size w w' := by
 have d0 := div64_any 0 n0 c hc0 hc h0
 rw [show 0 * 18446744073709551616 + n0 = n0 by omega] at d0
 exact divided_walk n0 n1 c (n0 / c : Nat) (n0 % c : Nat) _ _ w ⟨d0⟩ ⟨div64_any (n0 % c) n1 c (Nat.mod_lt _ hc0) hc h1⟩
end Go.Proofs.Ytgakmnholegbgaa.B
end
section
namespace Go.Proofs.Ytgakmnholegbgaa.B
open Go.RowKit Go.Proofs.YtgakmnholegbgaaW.PrintWords Go.Proofs.YtgakmnholegbgaaW.PrintLast Go.Proofs.YtgakmnholegbgaaW.PrintMore
set_option linter.unusedVariables false
set_option linter.unusedSimpArgs false
theorem bcell {W w1 : World} (hb : Below W.heap.size W w1) : (∀ b o, b < W.heap.size → w1.cell? ⟨b, o, none⟩ = W.cell? ⟨b, o, none⟩) ∧ (∀ b o, b < W.heap.size → w1.frozen? ⟨b, o, none⟩ = W.frozen? ⟨b, o, none⟩) :=
 ⟨fun b o h => hb.cell (p := ⟨b, o, none⟩) h, fun b o h => hb.frozen (p := ⟨b, o, none⟩) h⟩
def DivDone (w : World) (Q0 Q1 R : Int) (v12 v13 : Value) (wx : World) : Prop := ∃ g : Nat, v12 = .pointer (some ⟨g, 0, none⟩) ∧ v13 = .int .u64 R ∧ wx.heap[g]? = some (.cells #[.int .u64 Q0, .int .u64 Q1] 149 (0, 0)) ∧ w.heap.size ≤ g ∧ Below w.heap.size w wx
theorem dd_A {w w2 : World} {o o' : Obj} (hB : Below (w.alloc o).drew.heap.size (w.alloc o).drew w2) : (w2.alloc o').heap[w2.heap.size]? = some o' ∧ w.heap.size ≤ w2.heap.size ∧ Below w.heap.size w (w2.alloc o') := by
 have hz := hB.size
 simp at hz
 have h1 : Below w.heap.size w w2 := (((Below.refl _ _).alloc (Nat.le_refl _) _).drew).trans (hB.mono (by simp))
 exact ⟨blk_new _ _, by omega, h1.alloc (by omega) _⟩
theorem dd_B {w w2 : World} {o : Obj} {t : Nat} {x0 x1 y0 y1 : Value} (hB : Below ((w.alloc o).alloc (.cells #[x0, x1] t)).drew.heap.size ((w.alloc o).alloc (.cells #[x0, x1] t)).drew w2) :
  ((w2.setCell ⟨w.heap.size + 1, 0, none⟩ y0).setCell ⟨w.heap.size + 1, 1, none⟩ y1).heap[w.heap.size + 1]? = some (.cells #[y0, y1] t) ∧ w.heap.size ≤ w.heap.size + 1 ∧ Below w.heap.size w ((w2.setCell ⟨w.heap.size + 1, 0, none⟩ y0).setCell ⟨w.heap.size + 1, 1, none⟩ y1) := by
 have h1 : Below w.heap.size w w2 := ((((Below.refl _ _).alloc (Nat.le_refl _) _).alloc (by simp) _).drew).trans (hB.mono (by simp; omega))
 have h2 : w2.heap[w.heap.size + 1]? = some (.cells #[x0, x1] t) := by
  rw [hB.block (w.heap.size + 1) (by simp)]
  have := blk_new (w.alloc o) (.cells #[x0, x1] t)
  rwa [show (w.alloc o).heap.size = w.heap.size + 1 by simp] at this
 have h3 := blk_set (blk_set h2 0 y0) 1 y1
 exact ⟨h3.trans (by simp), by omega, (h1.setCell (by simp) _).setCell (by simp) _⟩
def QuoIs (below : Bool) (Z0 Z1 : Int) (w : World) (e : Ending) (w' : World) : Prop :=
 (∃ ok : Bool, e = .returned (.tuple #[.int .i64 (hold (if below = true then -(Z0 * 18446744073709551616 + Z1) else Z0 * 18446744073709551616 + Z1)), .bool ok])) ∧ Below w.heap.size w w'
theorem quo_over {below : Bool} {Z0 Z1 : Int} {w w' : World} (h0 : 0 ≤ Z0) (h1 : 0 ≤ Z1) (hb : below = true) (h : 0 < Z0 ∨ 9223372036854775808 < Z1) (hB : Below w.heap.size w w') : QuoIs below Z0 Z1 w (.returned (.tuple #[.int .i64 (-9223372036854775808), .bool false])) w' := by
 refine ⟨⟨false, ?_⟩, hB⟩
 rw [if_pos hb, hold_lo (by omega)]
theorem quo_over' {below : Bool} {Z0 Z1 : Int} {w w' : World} (h0 : 0 ≤ Z0) (h1 : 0 ≤ Z1) (hb : below = false) (h : 0 < Z0 ∨ 9223372036854775807 < Z1) (hB : Below w.heap.size w w') : QuoIs below Z0 Z1 w (.returned (.tuple #[.int .i64 9223372036854775807, .bool false])) w' := by
 refine ⟨⟨false, ?_⟩, hB⟩
 rw [if_neg (by simp [hb]), hold_hi (by omega)]
theorem quo_in {below : Bool} {Z0 Z1 V : Int} {w w' : World} (h0 : 0 ≤ Z0) (h1 : 0 ≤ Z1) (hb : below = true) (h : Z0 ≤ 0 ∧ Z1 ≤ 9223372036854775808) (hV : V = wrap64 (IntKind.u64.wrap (-Z1))) (hB : Below w.heap.size w w') : QuoIs below Z0 Z1 w (.returned (.tuple #[.int .i64 V, .bool true])) w' := by
 refine ⟨⟨true, ?_⟩, hB⟩
 have e : V = -(Z0 * 18446744073709551616 + Z1) := by
  rw [hV, IntKind.wrap_u64]
  unfold wrap64
  omega
 rw [if_pos hb, hold_in (by omega) (by omega), e]
theorem quo_in' {below : Bool} {Z0 Z1 V : Int} {w w' : World} (h0 : 0 ≤ Z0) (h1 : 0 ≤ Z1) (hb : below = false) (h : Z0 ≤ 0 ∧ Z1 ≤ 9223372036854775807) (hV : V = wrap64 Z1) (hB : Below w.heap.size w w') : QuoIs below Z0 Z1 w (.returned (.tuple #[.int .i64 V, .bool true])) w' := by
 refine ⟨⟨true, ?_⟩, hB⟩
 have e : V = Z0 * 18446744073709551616 + Z1 := by
  rw [hV]
  unfold wrap64
  omega
 rw [if_neg (by simp [hb]), hold_in (by omega) (by omega), e]
set_option maxHeartbeats 4000000 in
set_option maxRecDepth 100000 in
theorem quotient_walk (a b c how SA SB SC N0 N1 Q0 Q1 R : Int) (U below : Bool) (w : World) (Z0 Z1 K : Int) (hc : (c == 0) = false) (h1 : decide (how < 1) = false) (h3 : decide (3 < how) = false)
  (hbelow : (!(!decide (a < 0) == decide (b < 0)) == decide (c < 0)) = below)
  (hZ : Aside0 (0 ≤ Z0 ∧ 0 ≤ Z1)) (hF : Aside0 (U = false → Z0 = Q0 ∧ Z1 = Q1)) (hK : Aside0 (U = true → IntKind.u64.wrap (Q0 + K) = Z0))
  (hA : Aside0 (U = true → ∀ w, (callFunc 78 #[.int .u64 Q1, .int .u64 1, .int .u64 0]).run Try.prog w = .ok (.value (.tuple #[.int .u64 Z1, .int .u64 K])) w))
  (HU : Aside0 (∀ w, Calls Try.prog 77 #[.int .u64 R, .int .u64 SC, .bool below, .int .i64 how] w fun e w' => e = .returned (.bool U) ∧ w' = w))
  (H1 : Aside0 (∀ w, Calls Try.prog 75 #[.int .i64 a] w fun e w' => e = .returned (.int .u64 SA) ∧ w' = w))
  (H2 : Aside0 (∀ w, Calls Try.prog 75 #[.int .i64 b] w fun e w' => e = .returned (.int .u64 SB) ∧ w' = w))
  (H3 : Aside0 (∀ w, Calls Try.prog 75 #[.int .i64 c] w fun e w' => e = .returned (.int .u64 SC) ∧ w' = w))
  (HM : Aside0 (∀ w, Calls Try.prog 74 #[.int .u64 SA, .int .u64 SB] w fun e w' => e = .returned (.tuple #[.int .u64 N0, .int .u64 N1]) ∧ w' = w))
  (HD : Aside0 (∀ w, Calls Try.prog 76 #[.agg #[.int .u64 N0, .int .u64 N1], .int .u64 SC] w fun e w' => e = .returned (.tuple #[.agg #[.int .u64 Q0, .int .u64 Q1], .int .u64 R]) ∧ Below w.heap.size w w')) :
  Calls Try.prog 68 #[.int .i64 a, .int .i64 b, .int .i64 c, .int .i64 how] w (QuoIs below Z0 Z1 w) := by
 go_enter Try.func68, Try.ntmps68
 go_wp2_with fail
 refine (H1.out _).mono ?_
 rintro e w1 ⟨rfl, rfl⟩
 go_wp2_with fail
 refine (H2.out _).mono ?_
 rintro e w1 ⟨rfl, rfl⟩
 go_wp2_with fail
 refine (HM.out _).mono ?_
 rintro e w1 ⟨rfl, rfl⟩
 go_upto_region 6 with fail
 clear hbelow h1 h3 hc
 go_cut [12, 13] (fun v12 v13 wx => DivDone w Q0 Q1 R v12 v13 wx)
 case first =>
  go_region_with (first | (go_at_call 75; refine (H3.out _).mono ?_; rintro e w2 ⟨rfl, rfl⟩) | (go_at_call 76; refine (HD.out _).mono ?_; rintro e w2 ⟨rfl, hB⟩; obtain ⟨hcq, hfq⟩ := bcell hB; have hz := hB.size; simp at hz))
  all_goals go_wp2_with fail
  all_goals go_meet
  all_goals clear H1 H2 H3 HM HD HU
  all_goals first
   | (obtain ⟨d1, d2, d3⟩ := dd_A (o' := .cells #[.int .u64 Q0, .int .u64 Q1] 149) hB; exact ⟨_, rfl, rfl, d1, d2, d3⟩)
   | (obtain ⟨d1, d2, d3⟩ := dd_B (y0 := .int .u64 Q0) (y1 := .int .u64 Q1) hB; exact ⟨_, rfl, rfl, d1, d2, d3⟩)
 case rest =>
  obtain ⟨g, rfl, rfl, hg, hgw, hB⟩ := hcut
  have c0 := blk_cell hg 0
  have c1 := blk_cell hg 1
  have f0 := blk_frozen hg 0
  have f1 := blk_frozen hg 1
  simp only [List.getElem?_toArray, List.getElem?_cons_zero, List.getElem?_cons_succ] at c0 c1
  have HG := Aside0.mk hg
  have HB := Aside0.mk hB
  clear hg hB
  go_wp2_with fail
  refine (H3.out _).mono ?_
  rintro e w2 ⟨rfl, rfl⟩
  go_wp2_with fail
  refine (HU.out _).mono ?_
  rintro e w2 ⟨rfl, rfl⟩
  cases U
  ·obtain ⟨rfl, rfl⟩ := hF.out rfl
   clear hA hK hF
   cases below
   ·go_wp2_with fail
    ·have k : 0 < Z0 ∨ 9223372036854775807 < Z1 := by assumption
     go_ret2
     exact quo_over' hZ.out.1 hZ.out.2 rfl k HB.out
    ·have k : Z0 ≤ 0 ∧ Z1 ≤ 9223372036854775807 := by assumption
     go_ret2
     exact quo_in' hZ.out.1 hZ.out.2 rfl k rfl HB.out
    ·have k : 0 < Z0 := by assumption
     go_ret2
     exact quo_over' hZ.out.1 hZ.out.2 rfl (.inl k) HB.out
   ·go_wp2_with fail
    ·have k : 0 < Z0 ∨ 9223372036854775808 < Z1 := by assumption
     go_ret2
     exact quo_over hZ.out.1 hZ.out.2 rfl k HB.out
    ·have k : Z0 ≤ 0 ∧ Z1 ≤ 9223372036854775808 := by assumption
     go_ret2
     exact quo_in hZ.out.1 hZ.out.2 rfl k rfl HB.out
    ·have k : 0 < Z0 := by assumption
     go_ret2
     exact quo_over hZ.out.1 hZ.out.2 rfl (.inl k) HB.out
  ·have a1 := hA.out rfl
   have a2 := hK.out rfl
   clear hA hK hF
   cases below
   ·go_wp2_with fail
    ·have k : 0 < Z0 ∨ 9223372036854775807 < Z1 := by assumption
     go_ret2
     exact quo_over' hZ.out.1 hZ.out.2 rfl k ((HB.out.setCell (by simpa using hgw) _).setCell (by simpa using hgw) _)
    ·have k : Z0 ≤ 0 ∧ Z1 ≤ 9223372036854775807 := by assumption
     go_ret2
     exact quo_in' hZ.out.1 hZ.out.2 rfl k rfl ((HB.out.setCell (by simpa using hgw) _).setCell (by simpa using hgw) _)
    ·have k : 0 < Z0 := by assumption
     go_ret2
     exact quo_over' hZ.out.1 hZ.out.2 rfl (.inl k) ((HB.out.setCell (by simpa using hgw) _).setCell (by simpa using hgw) _)
   ·go_wp2_with fail
    ·have k : 0 < Z0 ∨ 9223372036854775808 < Z1 := by assumption
     go_ret2
     exact quo_over hZ.out.1 hZ.out.2 rfl k ((HB.out.setCell (by simpa using hgw) _).setCell (by simpa using hgw) _)
    ·have k : Z0 ≤ 0 ∧ Z1 ≤ 9223372036854775808 := by assumption
     go_ret2
     exact quo_in hZ.out.1 hZ.out.2 rfl k rfl ((HB.out.setCell (by simpa using hgw) _).setCell (by simpa using hgw) _)
    ·have k : 0 < Z0 := by assumption
     go_ret2
     exact quo_over hZ.out.1 hZ.out.2 rfl (.inl k) ((HB.out.setCell (by simpa using hgw) _).setCell (by simpa using hgw) _)
end Go.Proofs.Ytgakmnholegbgaa.B
end
section
namespace Go.Proofs.Ytgakmnholegbgaa.B
open Go.RowKit Go.Proofs.YtgakmnholegbgaaW.PrintWords Go.Proofs.YtgakmnholegbgaaW.PrintLast Go.Proofs.YtgakmnholegbgaaW.PrintMore
set_option linter.unusedVariables false
set_option linter.unusedSimpArgs false
def signB (a b c : Int) : Bool := !(!decide (a < 0) == decide (b < 0)) == decide (c < 0)
def quoN (a b c how : Int) : Nat := a.natAbs * b.natAbs / c.natAbs + (upB (a.natAbs * b.natAbs % c.natAbs) c.natAbs (signB a b c) how).toNat
def mdo (a b c how : Int) : Int := if c = 0 ∨ how < 1 ∨ 3 < how then 0 else hold (if signB a b c = true then -(quoN a b c how : Int) else quoN a b c how)
theorem mdo_range (a b c how : Int) : I64 (mdo a b c how) := by
 unfold mdo I64
 split
 ·omega
 ·exact hold_range _
theorem natAbs_le {a : Int} (h : I64 a) : a.natAbs ≤ 9223372036854775808 := by unfold I64 at h; omega
set_option maxHeartbeats 1000000 in
theorem quotient_none (a b c how : Int) (w : World) (h : c = 0 ∨ how < 1 ∨ 3 < how) : Calls Try.prog 68 #[.int .i64 a, .int .i64 b, .int .i64 c, .int .i64 how] w fun e w' => e = .returned (.tuple #[.int .i64 0, .bool false]) ∧ w' = w := by
 by_cases hc : c = 0
 ·have n0 : (c == 0) = true := by simp [hc]
  clear hc h
  go_enter Try.func68, Try.ntmps68
  go_wp2_with fail
  go_ret2
  exact ⟨rfl, rfl⟩
 ·have n0 : (c == 0) = false := by simp [hc]
  by_cases h1 : how < 1
  ·have n1 : decide (how < 1) = true := by simp [h1]
   clear hc h
   go_enter Try.func68, Try.ntmps68
   go_wp2_with fail
   go_ret2
   exact ⟨rfl, rfl⟩
  ·have n1 : decide (how < 1) = false := by simp; omega
   have n2 : decide (3 < how) = true := by simp; omega
   clear hc h h1
   go_enter Try.func68, Try.ntmps68
   go_wp2_with fail
   go_ret2
   exact ⟨rfl, rfl⟩
def QuoOk (V : Int) (w : World) (e : Ending) (w' : World) : Prop := (∃ ok : Bool, e = .returned (.tuple #[.int .i64 V, .bool ok])) ∧ Below w.heap.size w w'
set_option maxHeartbeats 1000000 in
theorem quotient_any (a b c how : Int) (ha : I64 a) (hb : I64 b) (hc : I64 c) (w : World) : Calls Try.prog 68 #[.int .i64 a, .int .i64 b, .int .i64 c, .int .i64 how] w (QuoOk (mdo a b c how) w) := by
 by_cases h : c = 0 ∨ how < 1 ∨ 3 < how
 ·refine (quotient_none a b c how w h).mono ?_
  rintro e w' ⟨rfl, rfl⟩
  refine ⟨⟨false, ?_⟩, Below.refl _ _⟩
  unfold mdo
  rw [if_pos h]
 ·have hC0 : 0 < c.natAbs := by omega
  have bA := natAbs_le ha
  have bB := natAbs_le hb
  have bC := natAbs_le hc
  have hn : a.natAbs * b.natAbs ≤ 85070591730234615865843651857942052864 := Nat.le_trans (Nat.mul_le_mul bA bB) (by decide)
  obtain ⟨n, en⟩ : ∃ n, n = a.natAbs * b.natAbs := ⟨_, rfl⟩
  obtain ⟨C, eC⟩ : ∃ C, C = c.natAbs := ⟨_, rfl⟩
  have hM := fun w => mul64_any a.natAbs b.natAbs (by omega) (by omega) w
  rw [← en] at hM hn
  have hD := fun w => divided_any (n / 18446744073709551616) (n % 18446744073709551616) C (by omega) (by omega) (by omega) (by omega) w
  obtain ⟨s1, s2⟩ := two_digits_aux (y := C) (D := n / 18446744073709551616) (Z := 18446744073709551616) (u0 := n % 18446744073709551616) (q1 := n / 18446744073709551616 / C) (r1 := n / 18446744073709551616 % C) (by omega) (Nat.div_add_mod _ _) rfl
  have eD : n / 18446744073709551616 * 18446744073709551616 + n % 18446744073709551616 = n := Nat.div_add_mod' n _
  rw [eD] at s1 s2
  obtain ⟨q0, e0⟩ : ∃ q0, q0 = n / 18446744073709551616 / C := ⟨_, rfl⟩
  obtain ⟨q1, e1⟩ : ∃ q0, q0 = (n / 18446744073709551616 % C * 18446744073709551616 + n % 18446744073709551616) / C := ⟨_, rfl⟩
  rw [← e0, ← e1] at hD s1
  rw [s2] at hD
  have hq0 : q0 ≤ 4611686018427387904 := by rw [e0]; exact Nat.le_trans (Nat.div_le_self _ _) (by omega)
  have hq1 : q1 < 18446744073709551616 := by
   rw [e1, Nat.div_lt_iff_lt_mul (by omega)]
   have := Nat.mod_lt (n / 18446744073709551616) (show 0 < C by omega)
   omega
  have hr : n % C < C := Nat.mod_lt _ (by omega)
  have hU := fun w => up_any (n % C) C (signB a b c) how (by omega) (by omega) w
  obtain ⟨U, eU⟩ : ∃ U, U = upB (n % C) C (signB a b c) how := ⟨_, rfl⟩
  rw [← eU] at hU
  have hq : quoN a b c how = q0 * 18446744073709551616 + q1 + U.toNat := by
   unfold quoN
   rw [← en, ← eC, ← eU, s1]
  have hz : mdo a b c how = hold (if signB a b c = true then -((q0 * 18446744073709551616 + q1 + U.toNat : Nat) : Int) else ((q0 * 18446744073709551616 + q1 + U.toNat : Nat) : Int)) := by
   unfold mdo
   rw [if_neg h, hq]
  rw [hz]
  have n0 : (c == 0) = false := by simp; omega
  have n1 : decide (how < 1) = false := by simp; omega
  have n2 : decide (3 < how) = false := by simp; omega
  have fin : ∀ (Z0 Z1 : Int), Z0 * 18446744073709551616 + Z1 = ((q0 * 18446744073709551616 + q1 + U.toNat : Nat) : Int) → ∀ e w', QuoIs (signB a b c) Z0 Z1 w e w' → QuoOk (hold (if signB a b c = true then -((q0 * 18446744073709551616 + q1 + U.toNat : Nat) : Int) else ((q0 * 18446744073709551616 + q1 + U.toNat : Nat) : Int))) w e w' := by
   intro Z0 Z1 hZ e w' hq
   unfold QuoIs at hq
   rw [hZ] at hq
   exact hq
  have S1 := fun w => size_any a ha w
  have S2 := fun w => size_any b hb w
  have S3 := fun w => size_any c hc w
  rw [← eC] at S3
  cases U
  ·exact (quotient_walk a b c how a.natAbs b.natAbs C (n / 18446744073709551616 : Nat) (n % 18446744073709551616 : Nat) q0 q1 (n % C : Nat) false (signB a b c) w q0 q1 0 n0 n1 n2 rfl
    ⟨⟨by omega, by omega⟩⟩ ⟨fun _ => ⟨rfl, rfl⟩⟩ ⟨fun h => by cases h⟩ ⟨fun h => by cases h⟩ ⟨hU⟩ ⟨S1⟩ ⟨S2⟩ ⟨S3⟩ ⟨hM⟩ ⟨hD⟩).mono (fin _ _ (by simp))
  ·exact (quotient_walk a b c how a.natAbs b.natAbs C (n / 18446744073709551616 : Nat) (n % 18446744073709551616 : Nat) q0 q1 (n % C : Nat) true (signB a b c) w ((q0 : Int) + ((q1 : Int) + 1) / 18446744073709551616) (((q1 : Int) + 1) % 18446744073709551616) (((q1 : Int) + 1) / 18446744073709551616) n0 n1 n2 rfl
    ⟨⟨by omega, by omega⟩⟩ ⟨fun h => by cases h⟩ ⟨fun _ => by rw [IntKind.wrap_u64]; omega⟩ ⟨fun _ w => add64_run (by omega) (by omega) (by omega) (by omega) (by omega) (by omega) w⟩ ⟨hU⟩ ⟨S1⟩ ⟨S2⟩ ⟨S3⟩ ⟨hM⟩ ⟨hD⟩).mono (fin _ _ (by simp; omega))
theorem do_any (a b c how : Int) (ha : I64 a) (hb : I64 b) (hc : I64 c) (w : World) : Calls Try.prog 44 #[.int .i64 a, .int .i64 b, .int .i64 c, .int .i64 how] w fun e w' => e = .returned (.int .i64 (mdo a b c how)) ∧ Below w.heap.size w w' := by
 have H := Aside0.mk (fun w => quotient_any a b c how ha hb hc w)
 clear ha hb hc
 generalize mdo a b c how = V at *
 go_enter Try.func44, Try.ntmps44
 go_wp2_with fail
 refine (H.out _).mono ?_
 rintro e w1 ⟨⟨ok, rfl⟩, hB⟩
 go_wp2
 go_ret
 exact ⟨rfl, hB⟩
end Go.Proofs.Ytgakmnholegbgaa.B
end
section
namespace Go.Proofs.Ytgakmnholegbgaa.B
open Go.RowKit
theorem wf_i64 {a : Int} (h : (Lit.int .i64 a).wf = true) : I64 a := by
 simp only [Lit.wf, Bool.and_eq_true, decide_eq_true_eq] at h
 exact ⟨Int.le_trans (show (-9223372036854775808 : Int) ≤ IntKind.i64.min by decide) h.1, Int.le_trans h.2 (show IntKind.i64.max ≤ (9223372036854775807 : Int) by decide)⟩
def U32 (a : Int) : Prop := 0 ≤ a ∧ a ≤ 4294967295
def U8 (a : Int) : Prop := 0 ≤ a ∧ a ≤ 255
theorem wf_u8 {a : Int} (h : (Lit.int .u8 a).wf = true) : U8 a := by
 simp only [Lit.wf, Bool.and_eq_true, decide_eq_true_eq] at h
 exact ⟨Int.le_trans (show (0 : Int) ≤ IntKind.u8.min by decide) h.1, Int.le_trans h.2 (show IntKind.u8.max ≤ (255 : Int) by decide)⟩
end Go.Proofs.Ytgakmnholegbgaa.B
end
section
namespace Go.Proofs.Ytgakmnholegbgaa.B
open Go.RowKit Go.Proofs.YtgakmnholegbgaaW.PrintWords
theorem snoc_ind {α : Type} {p : List α → Prop} (h0 : p []) (h1 : ∀ l b, p l → p (l ++ [b])) (l : List α) : p l := by
 have key : ∀ n (l : List α), l.length = n → p l := by
  intro n
  induction n with
  | zero => intro l h; rw [List.eq_nil_of_length_eq_zero h]; exact h0
  | succ n ih =>
   intro l h
   have hne : l ≠ [] := by rintro rfl; simp at h
   rw [← List.dropLast_concat_getLast hne]
   exact h1 _ _ (ih _ (by rw [List.length_dropLast]; omega))
 exact key _ l rfl
def toBits : Nat → Nat → List Bool
 | 0, _ => []
 | n + 1, v => v.testBit n :: toBits n v
theorem toBits_length (n v : Nat) : (toBits n v).length = n := by
 induction n with
 | zero => rfl
 | succ n ih => simp [toBits, ih]
def valOf (l : List Bool) : Nat := l.foldl (fun a b => 2 * a + b.toNat) 0
theorem valOf_snoc (l : List Bool) (b : Bool) : valOf (l ++ [b]) = 2 * valOf l + b.toNat := by simp [valOf, List.foldl_append]
theorem valOf_lt (l : List Bool) : valOf l < 2 ^ l.length := by
 refine snoc_ind (p := fun l => valOf l < 2 ^ l.length) (by simp [valOf]) (fun l b ih => ?_) l
 ·rw [valOf_snoc, List.length_append, List.length_singleton, Nat.pow_succ]; have : b.toNat ≤ 1 := Bool.toNat_le b; omega
def byteAt (l : List Bool) (j : Nat) : Nat := valOf ((List.range 8).map fun i => l.getD (8 * j + i) false)
theorem byteAt_lt (l : List Bool) (j : Nat) : byteAt l j < 256 := by have := valOf_lt ((List.range 8).map fun i => l.getD (8 * j + i) false); simpa [byteAt] using this
def pack (l : List Bool) : List Nat := (List.range ((l.length + 7) / 8)).map (byteAt l)
def packI (l : List Bool) : List Int := (pack l).map fun x : Nat => (x : Int)
theorem packI_length (l : List Bool) : (packI l).length = (l.length + 7) / 8 := by simp [packI, pack]
theorem getD_snoc (l : List Bool) (b : Bool) (i : Nat) : (l ++ [b]).getD i false = if i = l.length then b else l.getD i false := by
 rw [List.getD_eq_getElem?_getD, List.getD_eq_getElem?_getD, List.getElem?_append]
 split
 ·rw [if_neg (by omega)]
 ·split
  ·subst_vars; simp
  ·rw [List.getElem?_eq_none (by simp; omega), List.getElem?_eq_none (by omega)]
theorem byteAt_other (l : List Bool) (b : Bool) (j : Nat) (h : j ≠ l.length / 8) : byteAt (l ++ [b]) j = byteAt l j := by
 unfold byteAt
 congr 1
 apply List.map_congr_left
 intro i hi
 rw [getD_snoc, if_neg (by have := List.mem_range.1 hi; omega)]
theorem byteAt_zero (l : List Bool) (j : Nat) (h : l.length ≤ 8 * j) : byteAt l j = 0 := by
 have : (List.range 8).map (fun i => l.getD (8 * j + i) false) = List.replicate 8 false := by
  rw [List.eq_replicate_iff]
  refine ⟨by simp, fun b hb => ?_⟩
  obtain ⟨i, _, rfl⟩ := List.mem_map.1 hb
  rw [List.getD_eq_getElem?_getD, List.getElem?_eq_none (by omega)]; rfl
 rw [byteAt, this]; rfl
theorem set_bits (f : Nat → Bool) (r : Nat) (hr : r < 8) (hf : ∀ i, r ≤ i → f i = false) (b : Bool) :
  valOf ((List.range 8).map fun i => if i = r then b else f i) = valOf ((List.range 8).map f) ||| (b.toNat * 2 ^ (7 - r)) := by
 have h8 : List.range 8 = [0, 1, 2, 3, 4, 5, 6, 7] := rfl
 rw [h8]
 have c : r = 0 ∨ r = 1 ∨ r = 2 ∨ r = 3 ∨ r = 4 ∨ r = 5 ∨ r = 6 ∨ r = 7 := by omega
 rcases c with rfl | rfl | rfl | rfl | rfl | rfl | rfl | rfl <;> simp only [List.map_cons, List.map_nil] <;>
  (simp (disch := omega) only [hf]; generalize f 0 = f0; generalize f 1 = f1; generalize f 2 = f2; generalize f 3 = f3; generalize f 4 = f4; generalize f 5 = f5; generalize f 6 = f6; clear hf; simp only [reduceIte, Nat.reduceEqDiff, Nat.reduceSub, Nat.reducePow, Nat.succ_ne_self, Nat.zero_ne_one]; cases b <;> first | (cases f0 <;> cases f1 <;> cases f2 <;> cases f3 <;> cases f4 <;> cases f5 <;> cases f6 <;> rfl))
theorem byteAt_snoc (l : List Bool) (b : Bool) : byteAt (l ++ [b]) (l.length / 8) = byteAt l (l.length / 8) ||| (b.toNat * 2 ^ (7 - l.length % 8)) := by
 unfold byteAt
 rw [← set_bits (fun i => l.getD (8 * (l.length / 8) + i) false) (l.length % 8) (by omega) (fun i hi => by rw [List.getD_eq_getElem?_getD, List.getElem?_eq_none (by omega)]; rfl) b]
 congr 1
 apply List.map_congr_left
 intro i hi
 rw [getD_snoc]
 by_cases h : i = l.length % 8
 ·rw [if_pos h, if_pos (by omega)]
 ·rw [if_neg h, if_neg (by omega)]
theorem pack_snoc_new (l : List Bool) (b : Bool) (h : l.length % 8 = 0) : pack (l ++ [b]) = (pack l ++ [0]).set (l.length / 8) (byteAt l (l.length / 8) ||| (b.toNat * 2 ^ (7 - l.length % 8))) := by
 rw [← byteAt_snoc]
 apply List.ext_getElem
 ·simp [pack]; omega
 ·intro i h1 h2
  simp only [pack, List.length_map, List.length_range, List.length_append, List.length_cons, List.length_nil] at h1
  simp only [pack, List.getElem_map, List.getElem_range, List.getElem_set]
  by_cases e : l.length / 8 = i
  ·subst e; simp
  ·rw [if_neg e, byteAt_other l b i (fun h' => e h'.symm), List.getElem_append_left (by simp; omega)]
   simp
theorem pack_snoc_old (l : List Bool) (b : Bool) (h : ¬ l.length % 8 = 0) : pack (l ++ [b]) = (pack l).set (l.length / 8) (byteAt l (l.length / 8) ||| (b.toNat * 2 ^ (7 - l.length % 8))) := by
 rw [← byteAt_snoc]
 apply List.ext_getElem
 ·simp [pack]; omega
 ·intro i h1 h2
  simp only [pack, List.length_map, List.length_range, List.length_append, List.length_cons, List.length_nil] at h1
  simp only [pack, List.getElem_map, List.getElem_range, List.getElem_set]
  by_cases e : l.length / 8 = i
  ·subst e; simp
  ·rw [if_neg e, byteAt_other l b i (fun h' => e h'.symm)]
theorem rd_packI (l : List Bool) (j : Nat) (h : j < (l.length + 7) / 8) : rd (packI l) (j : Int) = byteAt l j := by
 simp only [rd, packI, pack, Int.toNat_natCast, List.getD_eq_getElem?_getD]
 rw [List.getElem?_eq_getElem (by simpa using h)]
 simp
def byteN (s : ByteArray) (j : Nat) : Nat := (bt s (j : Int)).toNat
theorem byteN_lt (s : ByteArray) (j : Nat) : byteN s j < 256 := by have := bt_range s (j : Int); unfold byteN; omega
theorem byteN_bt (s : ByteArray) (j : Nat) : bt s (j : Int) = (byteN s j : Int) := by have := bt_range s (j : Int); unfold byteN; omega
def bitN (s : ByteArray) (i : Nat) : Bool := (byteN s (i / 8)).testBit (7 - i % 8)
def rdBits (s : ByteArray) (a : Nat) : Nat → Nat
 | 0 => 0
 | n + 1 => 2 * rdBits s a n + (bitN s (a + n)).toNat
theorem rdBits_lt (s : ByteArray) (a n : Nat) : rdBits s a n < 2 ^ n := by
 induction n with
 | zero => simp [rdBits]
 | succ n ih => rw [rdBits, Nat.pow_succ]; have := Bool.toNat_lt (bitN s (a + n)); omega
theorem rdBits_lt31 (s : ByteArray) (a n : Nat) (hn : n ≤ 31) : rdBits s a n < 2147483648 :=
 Nat.lt_of_lt_of_le (rdBits_lt s a n) (Nat.pow_le_pow_right (by omega) hn)
theorem or_even_u32 (v : Nat) (b : Bool) (hv : v < 2147483648) : bits .or .u32 ((2 * v : Nat) : Int) (b.toNat : Int) = ((2 * v + b.toNat : Nat) : Int) := by
 have e32 : ∀ z : Nat, z < 4294967296 → (BitVec.ofInt 32 (z : Int)).toNat = z := fun z hz => by rw [BitVec.ofInt_natCast, BitVec.toNat_ofNat]; exact Nat.mod_eq_of_lt (by omega)
 have hb := Bool.toNat_lt b
 have ho : 2 * v ||| b.toNat = 2 * v + b.toNat := by
  have h := Nat.two_pow_add_eq_or_of_lt (i := 1) (b := b.toNat) (by omega) v
  rw [Nat.pow_one] at h
  exact h.symm
 show IntKind.u32.wrap ((BitVec.ofInt 32 ((2 * v : Nat) : Int) ||| BitVec.ofInt 32 ((b.toNat : Nat) : Int)).toNat : Int) = _
 rw [BitVec.toNat_or, e32 _ (by omega), e32 _ (by omega), ho, IntKind.wrap_u32]
 omega
theorem and_one_u8 (v j : Nat) (hv : v < 256) : bits .and .u8 ((v : Int) / 2 ^ j) 1 = ((v.testBit j).toNat : Int) := by
 have e : ((v : Int) / 2 ^ j) = ((v / 2 ^ j : Nat) : Int) := by rw [Int.natCast_ediv, Int.natCast_pow]; rfl
 have hlt : v / 2 ^ j < 256 := Nat.lt_of_le_of_lt (Nat.div_le_self _ _) hv
 have e8 : ∀ z : Nat, z < 256 → (BitVec.ofInt 8 (z : Int)).toNat = z := fun z hz => by rw [BitVec.ofInt_natCast, BitVec.toNat_ofNat]; exact Nat.mod_eq_of_lt (by omega)
 rw [e]
 show IntKind.u8.wrap ((BitVec.ofInt 8 ((v / 2 ^ j : Nat) : Int) &&& BitVec.ofInt 8 ((1 : Nat) : Int)).toNat : Int) = _
 rw [BitVec.toNat_and, e8 _ hlt, e8 1 (by omega), Nat.and_one_is_mod, IntKind.wrap_u8, Nat.testBit_eq_decide_div_mod_eq]
 rcases Nat.mod_two_eq_zero_or_one (v / 2 ^ j) with h | h <;> simp [h]
def after16 (a b : Int) : Bool := decide (0 ≤ a) && (decide (0 ≤ b) && (decide (a < 65536) && (decide (b < 65536) && (decide (1 ≤ (a - b) % 65536) && decide ((a - b) % 65536 < 32768)))))
theorem after16_iff (a b : Int) : after16 a b = true ↔ (0 ≤ a ∧ a < 65536) ∧ (0 ≤ b ∧ b < 65536) ∧ 1 ≤ (a - b) % 65536 ∧ (a - b) % 65536 < 32768 := by
 simp [after16]; omega
theorem and_mask_i64 (x : Int) (k : Nat) (hk : k ≤ 62) : bits .and .i64 x (2 ^ k - 1) = x % 2 ^ k := by
 have hp : (2 : Nat) ^ k ≤ 2 ^ 62 := Nat.pow_le_pow_right (by omega) hk
 have hp1 := Nat.two_pow_pos k
 have e1 : ((2 : Int) ^ k - 1) = ((2 ^ k - 1 : Nat) : Int) := by rw [Int.natCast_sub hp1, Int.natCast_pow]; rfl
 have e2 : ((2 : Int) ^ k) = ((2 ^ k : Nat) : Int) := by rw [Int.natCast_pow]; rfl
 have hd : (2 : Nat) ^ 64 = 2 ^ k * 2 ^ (64 - k) := by rw [← Nat.pow_add]; congr 1; omega
 show IntKind.i64.wrap ((BitVec.ofInt 64 x &&& BitVec.ofInt 64 (2 ^ k - 1)).toNat : Int) = _
 rw [e1, e2, BitVec.toNat_and, BitVec.ofInt_natCast, BitVec.toNat_ofNat, Nat.mod_eq_of_lt (show 2 ^ k - 1 < 2 ^ 64 by omega), Nat.and_two_pow_sub_one_eq_mod, BitVec.toNat_ofInt]
 have h64 : ((x % ((2 ^ 64 : Nat) : Int)).toNat : Int) = x % ((2 ^ 64 : Nat) : Int) := Int.toNat_of_nonneg (Int.emod_nonneg _ (by omega))
 have h3 : (((x % ((2 ^ 64 : Nat) : Int)).toNat % 2 ^ k : Nat) : Int) = x % ((2 ^ k : Nat) : Int) := by
  rw [Int.natCast_emod, h64, hd, Int.natCast_mul, Int.emod_emod_of_dvd _ (Int.dvd_mul_right _ _)]
 rw [h3, IntKind.wrap_i64]
 have l0 := Int.emod_nonneg x (show ((2 ^ k : Nat) : Int) ≠ 0 by omega)
 have l1 := Int.emod_lt_of_pos x (show (0 : Int) < ((2 ^ k : Nat) : Int) by omega)
 omega
theorem and_65535 (x : Int) : bits .and .i64 x 65535 = x % 65536 := and_mask_i64 x 16 (by omega)
def goodTail (l0 : Int) : Int → List Int → Bool
 | _, [] => true
 | p, n :: t => after16 n p && (after16 n l0 && goodTail l0 n t)
def goodB : List Int → Bool
 | [] => false
 | n :: t => decide (0 ≤ n) && (decide (n ≤ 65535) && (decide (t.length < 4096) && goodTail n n t))
end Go.Proofs.Ytgakmnholegbgaa.B
end
section
namespace Go.Proofs.Ytgakmnholegbgaa.B
set_option linter.unusedVariables false
set_option linter.unusedSimpArgs false
theorem ediv_is {a b q r : Int} (hb : 0 < b) (h : r + b * q = a) (h0 : 0 ≤ r) (h1 : r < b) : a / b = q := ((Int.ediv_emod_unique hb).2 ⟨h, h0, h1⟩).1
theorem sign_cases (a b c : Int) (hc : 0 < c) : (signB a b c = false ∧ a * b = ((a.natAbs * b.natAbs : Nat) : Int)) ∨ (signB a b c = true ∧ a * b = -((a.natAbs * b.natAbs : Nat) : Int)) := by
 have hcn : decide (c < 0) = false := decide_eq_false (by omega)
 unfold signB
 rw [hcn]
 by_cases ha : a < 0
 ·have ea : a = -((a.natAbs : Nat) : Int) := by omega
  by_cases hb : b < 0
  ·have eb : b = -((b.natAbs : Nat) : Int) := by omega
   left
   refine ⟨by simp [ha, hb], ?_⟩
   rw [Int.natCast_mul]
   generalize a.natAbs = x at *
   generalize b.natAbs = y at *
   subst ea eb
   rw [Int.neg_mul_neg]
  ·have eb : b = ((b.natAbs : Nat) : Int) := by omega
   right
   refine ⟨by simp [ha, hb], ?_⟩
   rw [Int.natCast_mul]
   generalize a.natAbs = x at *
   generalize b.natAbs = y at *
   subst ea eb
   rw [Int.neg_mul]
 ·have ea : a = ((a.natAbs : Nat) : Int) := by omega
  by_cases hb : b < 0
  ·have eb : b = -((b.natAbs : Nat) : Int) := by omega
   right
   refine ⟨by simp [ha, hb], ?_⟩
   rw [Int.natCast_mul]
   generalize a.natAbs = x at *
   generalize b.natAbs = y at *
   subst ea eb
   rw [Int.mul_neg]
  ·have eb : b = ((b.natAbs : Nat) : Int) := by omega
   left
   refine ⟨by simp [ha, hb], ?_⟩
   rw [Int.natCast_mul]
   generalize a.natAbs = x at *
   generalize b.natAbs = y at *
   subst ea eb
   rfl
theorem down_core (N C : Nat) (hC : 0 < C) : (N : Int) / (C : Int) = ((N / C + (upB (N % C) C false 1).toNat : Nat) : Int) ∧ (-(N : Int)) / (C : Int) = -((N / C + (upB (N % C) C true 1).toNat : Nat) : Int) := by
 have hd := Nat.div_add_mod N C
 have hm := Nat.mod_lt N hC
 generalize N / C = Q at *
 generalize N % C = R at *
 subst hd
 have hCQ : (((C * Q + R : Nat) : Int)) = (C : Int) * (Q : Int) + (R : Int) := by push_cast; rfl
 rw [hCQ]
 constructor
 ·apply ediv_is (r := (R : Int)) (by omega)
  ·simp [upB]
   omega
  ·omega
  ·omega
 ·by_cases h : R = 0
  ·subst h
   apply ediv_is (r := 0) (by omega)
   ·simp [upB, Int.mul_neg]
   ·omega
   ·omega
  ·have hu : (upB R C true 1).toNat = 1 := by simp [upB]; omega
   rw [hu]
   apply ediv_is (r := (C : Int) - (R : Int)) (by omega)
   ·push_cast
    rw [Int.mul_neg, Int.mul_add, Int.mul_one]
    omega
   ·omega
   ·omega
theorem near_core (N C : Nat) (hC : 0 < C) : (2 * (N : Int) + (C : Int)) / (2 * (C : Int)) = ((N / C + (upB (N % C) C false 2).toNat : Nat) : Int) ∧ (2 * (-(N : Int)) + (C : Int)) / (2 * (C : Int)) = -((N / C + (upB (N % C) C true 2).toNat : Nat) : Int) := by
 have hd := Nat.div_add_mod N C
 have hm := Nat.mod_lt N hC
 generalize N / C = Q at *
 generalize N % C = R at *
 subst hd
 have hCQ : (((C * Q + R : Nat) : Int)) = (C : Int) * (Q : Int) + (R : Int) := by push_cast; rfl
 rw [hCQ]
 constructor
 ·by_cases h : C ≤ R + R
  ·have hu : (upB R C false 2).toNat = 1 := by simp [upB]; omega
   rw [hu]
   apply ediv_is (r := 2 * (R : Int) - (C : Int)) (by omega)
   ·push_cast
    rw [Int.mul_assoc, Int.mul_add, Int.mul_one]
    omega
   ·omega
   ·omega
  ·have hu : (upB R C false 2).toNat = 0 := by simp [upB]; omega
   rw [hu]
   apply ediv_is (r := 2 * (R : Int) + (C : Int)) (by omega)
   ·push_cast
    rw [Int.mul_assoc, Int.add_zero]
    omega
   ·omega
   ·omega
 ·by_cases h : C < R + R
  ·have hu : (upB R C true 2).toNat = 1 := by simp [upB]; omega
   rw [hu]
   apply ediv_is (r := 3 * (C : Int) - 2 * (R : Int)) (by omega)
   ·push_cast
    rw [Int.mul_assoc, Int.mul_neg, Int.mul_add, Int.mul_one]
    omega
   ·omega
   ·omega
  ·have hu : (upB R C true 2).toNat = 0 := by simp [upB]; omega
   rw [hu]
   apply ediv_is (r := (C : Int) - 2 * (R : Int)) (by omega)
   ·push_cast
    rw [Int.mul_assoc, Int.mul_neg, Int.add_zero]
    omega
   ·omega
   ·omega
theorem mdo_down (a b c : Int) (hc : 0 < c) : mdo a b c 1 = hold (a * b / c) := by
 unfold mdo quoN
 rw [if_neg (by omega)]
 obtain ⟨C, rfl⟩ := Int.eq_ofNat_of_zero_le (Int.le_of_lt hc)
 have hC : 0 < C := by omega
 have hcore := down_core (a.natAbs * b.natAbs) C hC
 rw [Int.natAbs_natCast]
 rcases sign_cases a b C hc with ⟨hs, he⟩ | ⟨hs, he⟩
 ·rw [hs, he, hcore.1]
  simp
 ·rw [hs, he, hcore.2]
  simp
theorem mdo_near (a b c : Int) (hc : 0 < c) : mdo a b c 2 = hold ((2 * (a * b) + c) / (2 * c)) := by
 unfold mdo quoN
 rw [if_neg (by omega)]
 obtain ⟨C, rfl⟩ := Int.eq_ofNat_of_zero_le (Int.le_of_lt hc)
 have hC : 0 < C := by omega
 have hcore := near_core (a.natAbs * b.natAbs) C hC
 rw [Int.natAbs_natCast]
 rcases sign_cases a b C hc with ⟨hs, he⟩ | ⟨hs, he⟩
 ·rw [hs, he, hcore.1]
  simp
 ·rw [hs, he, hcore.2]
  simp
theorem near_exact (q : Int) : (2 * (q * 4294967296) + 4294967296) / 8589934592 = q := ediv_is (r := 4294967296) (by omega) (by omega) (by omega) (by omega)
theorem mul_one (x : Int) (hx : I64 x) : mdo x 4294967296 4294967296 2 = x := by
 rw [mdo_near x _ _ (by omega), show (2 : Int) * 4294967296 = 8589934592 from rfl, near_exact]
 exact hold_in hx.1 hx.2
end Go.Proofs.Ytgakmnholegbgaa.B
end
section
namespace Go.Proofs.Ytgakmnholegbgaa.B
open Go.RowKit Go.Proofs.YtgakmnholegbgaaW.PrintWords Go.Proofs.YtgakmnholegbgaaW.PrintLast Go.Proofs.YtgakmnholegbgaaW.PrintMore
set_option linter.unusedVariables false
set_option linter.unusedSimpArgs false
theorem cut16 (n : Int) (w : World) (hn : I64 n) : Calls Try.prog 43 #[.int .i64 n, .int .i64 16] w fun e w' => e = .returned (.int .i64 (n % 65536)) ∧ w' = w := by
 obtain ⟨R, hR⟩ : ∃ R, R = n % 65536 := ⟨_, rfl⟩
 rw [← hR]
 have HR := Aside0.mk hR
 clear hR
 go_enter Try.func43, Try.ntmps43
 go_wp2
 go_ret
 have e : bits .and .i64 n 65535 = R := by rw [HR.out]; exact and_65535 n
 exact ⟨by rw [← e]; rfl, rfl⟩
def farP (l : Int) : Int := min (max l (-1152921504606846976)) 1152921504606846976
def nearP (m l v : Int) : Int := if m < 2 * ((v - farP l) % m) then farP l + (v - farP l) % m - m else farP l + (v - farP l) % m
theorem far_range (l : Int) : -1152921504606846976 ≤ farP l ∧ farP l ≤ 1152921504606846976 := by unfold farP; omega
theorem and_24 (x : Int) : bits .and .i64 x 16777215 = x % 16777216 := and_mask_i64 x 24 (by omega)
theorem near24 (l v : Int) (w : World) (hl : I64 l) (hv : I64 v) : Calls Try.prog 45 #[.int .i64 l, .int .i64 v, .int .i64 24] w fun e w' => e = .returned (.int .i64 (nearP 16777216 l v)) ∧ w' = w := by
 obtain ⟨R, hR⟩ : ∃ R, R = nearP 16777216 l v := ⟨_, rfl⟩
 rw [← hR]
 have HR := Aside0.mk hR
 clear hR
 go_enter Try.func45, Try.ntmps45
 go_wp2
 all_goals go_ret
 ·have e : wrap64 (min (max l (-1152921504606846976)) 1152921504606846976 + wrap64 (bits BinOp.and IntKind.i64 (wrap64 (bits BinOp.and IntKind.i64 v 16777215 - min (max l (-1152921504606846976)) 1152921504606846976)) 16777215 - 16777216)) = R := by
   rename_i h
   rw [HR.out]
   rw [and_24, and_24] at *
   have hf := far_range l
   unfold nearP
   change _ < ((wrap64 (v % 16777216 - farP l)) % 16777216) at h
   change wrap64 (farP l + wrap64 ((wrap64 (v % 16777216 - farP l)) % 16777216 - 16777216)) = _
   generalize farP l = L at *
   unfold wrap64 at *
   split <;> omega
  exact ⟨by rw [← e]; rfl, rfl⟩
 ·have e : wrap64 (min (max l (-1152921504606846976)) 1152921504606846976 + bits BinOp.and IntKind.i64 (wrap64 (bits BinOp.and IntKind.i64 v 16777215 - min (max l (-1152921504606846976)) 1152921504606846976)) 16777215) = R := by
   rename_i h
   rw [HR.out]
   rw [and_24, and_24] at *
   have hf := far_range l
   unfold nearP
   change ((wrap64 (v % 16777216 - farP l)) % 16777216) ≤ _ at h
   change wrap64 (farP l + (wrap64 (v % 16777216 - farP l)) % 16777216) = _
   generalize farP l = L at *
   unfold wrap64 at *
   split <;> omega
  exact ⟨by rw [← e]; rfl, rfl⟩
def stampP (t : Int) : Int := mdo t 65536 1000000 1
def nearT (t : Int) : Int := min (max t (-1125899906842624)) 1125899906842624
def fromP (stamp near : Int) : Int := mdo (nearP 4294967296 (stampP (nearT near)) stamp) 1000000 65536 3
theorem stamped_any (a : Int) (ha : I64 a) (w : World) : Calls Try.prog 65 #[.int .i64 a] w fun e w' => e = .returned (.int .i64 (stampP a)) ∧ Below w.heap.size w w' := by
 have H := Aside0.mk (fun w => do_any a 65536 1000000 1 ha (by unfold I64; omega) (by unfold I64; omega) w)
 clear ha
 unfold stampP
 generalize mdo a 65536 1000000 1 = V at *
 go_enter Try.func65, Try.ntmps65
 go_wp2_with fail
 refine (H.out _).mono ?_
 rintro e w1 ⟨rfl, hB⟩
 go_wp2
 go_ret
 exact ⟨rfl, hB⟩
theorem far_is (n : Int) (h : -1152921504606846976 ≤ n ∧ n ≤ 1152921504606846976) : farP n = n := by unfold farP; omega
theorem from_mid (n s : Int) (h : -1152921504606846976 ≤ n ∧ n ≤ 1152921504606846976) (e : (wrap64 (wrap32 ((s - n) % 4294967296)) == -2147483648) = true) : wrap64 (n + 2147483648) = nearP 4294967296 n s := by
 have e' := eq_of_beq e
 unfold nearP
 rw [far_is n h]
 unfold wrap64 wrap32 at *
 split <;> omega
theorem from_by (n s : Int) (h : -1152921504606846976 ≤ n ∧ n ≤ 1152921504606846976) (e : (wrap64 (wrap32 ((s - n) % 4294967296)) == -2147483648) = false) : wrap64 (n + wrap64 (wrap32 ((s - n) % 4294967296))) = nearP 4294967296 n s := by
 have e' := ne_of_beq_false e
 unfold nearP
 rw [far_is n h]
 unfold wrap64 wrap32 at *
 split <;> omega
theorem near_range (m n s : Int) (hm : 0 < m ∧ m ≤ 4294967296) : I64 (nearP m n s) := by
 have h := far_range n
 unfold nearP
 have h0 := Int.emod_nonneg (s - farP n) (show m ≠ 0 by omega)
 have h1 := Int.emod_lt_of_pos (s - farP n) hm.1
 unfold I64
 split <;> omega
theorem from_any (s near : Int) (hs : U32 s) (hn : I64 near) (w : World) : Calls Try.prog 42 #[.int .u32 s, .int .i64 near] w fun e w' => e = .returned (.int .i64 (fromP s near)) ∧ Below w.heap.size w w' := by
 have hT : I64 (nearT near) := by unfold nearT I64; omega
 have H := Aside0.mk (fun w => stamped_any (nearT near) hT w)
 obtain ⟨R, hR⟩ : ∃ R, R = fromP s near := ⟨_, rfl⟩
 rw [← hR]
 unfold fromP at hR
 obtain ⟨n, hn'⟩ : ∃ n, n = stampP (nearT near) := ⟨_, rfl⟩
 rw [← hn'] at hR H
 have hr : -1152921504606846976 ≤ n ∧ n ≤ 1152921504606846976 := by
  rw [hn']
  unfold stampP
  rw [mdo_down _ _ _ (by omega)]
  unfold hold nearT
  split <;> (try split) <;> omega
 have HR := Aside0.mk hR
 clear hR hn'
 have HD := Aside0.mk (fun (a : Int) (ha : I64 a) w => do_any a 1000000 65536 3 ha (by unfold I64; omega) (by unfold I64; omega) w)
 have Hs := Aside0.mk hs
 have Hr := Aside0.mk hr
 clear hs hr hT
 go_enter Try.func42, Try.ntmps42
 go_wp2_with fail
 refine (H.out _).mono ?_
 rintro e w1 ⟨rfl, hB⟩
 have B1 := Aside0.mk hB
 clear hB
 go_wp2_with fail
 ·rw [from_mid n s Hr.out (by assumption)]
  refine (HD.out _ (near_range _ _ _ (by omega)) _).mono ?_
  rintro e w2 ⟨rfl, hB⟩
  rw [← HR.out]
  have B2 := Aside0.mk (B1.out.trans (hB.mono B1.out.size))
  clear hB
  go_wp2_with fail
  go_ret
  exact ⟨rfl, B2.out⟩
 ·rw [from_by n s Hr.out (by assumption)]
  refine (HD.out _ (near_range _ _ _ (by omega)) _).mono ?_
  rintro e w2 ⟨rfl, hB⟩
  rw [← HR.out]
  have B2 := Aside0.mk (B1.out.trans (hB.mono B1.out.size))
  clear hB
  go_wp2_with fail
  go_ret
  exact ⟨rfl, B2.out⟩
end Go.Proofs.Ytgakmnholegbgaa.B
end
section
namespace Go.Proofs.Ytgakmnholegbgaa.B
open Go.RowKit Go.Proofs.YtgakmnholegbgaaW.PrintWords Go.Proofs.YtgakmnholegbgaaW.PrintLast Go.Proofs.YtgakmnholegbgaaW.PrintMore
set_option linter.unusedVariables false
set_option linter.unusedSimpArgs false
structure Touch (S : Nat → Prop) (w w' : World) : Prop where
 os : w'.os = w.os
 tape : w'.tape = w.tape
 output : w'.output = w.output
 size : w.heap.size ≤ w'.heap.size
 block : ∀ i, i < w.heap.size → ¬ S i → w'.heap[i]? = w.heap[i]?
namespace Touch
variable {S : Nat → Prop} {w w1 w2 : World}
theorem refl (S : Nat → Prop) (w : World) : Touch S w w := ⟨rfl, rfl, rfl, Nat.le_refl _, fun _ _ _ => rfl⟩
theorem trans {S2 : Nat → Prop} (h : Touch S w w1) (k : Touch S2 w1 w2) (hS : ∀ i, S2 i → S i ∨ w.heap.size ≤ i) : Touch S w w2 :=
 ⟨k.os.trans h.os, k.tape.trans h.tape, k.output.trans h.output, Nat.le_trans h.size k.size, fun i hi hn => (k.block i (Nat.lt_of_lt_of_le hi h.size) (fun hs => (hS i hs).elim hn (fun hh => by omega))).trans (h.block i hi hn)⟩
theorem of_below (h : Below w.heap.size w w1) : Touch S w w1 := ⟨h.os, h.tape, h.output, h.size, fun i hi _ => h.block i hi⟩
theorem below (h : Touch S w w1) (k : Below w1.heap.size w1 w2) : Touch S w w2 := h.trans (of_below (S := fun _ => False) k) (fun _ hk => hk.elim)
theorem alloc (h : Touch S w w1) (o : Obj) : Touch S w (w1.alloc o) := h.below ((Below.refl _ _).alloc (Nat.le_refl _) _)
theorem drew (h : Touch S w w1) : Touch S w w1.drew := ⟨h.os, h.tape, h.output, h.size, h.block⟩
theorem drewN (h : Touch S w w1) (n : Nat) : Touch S w (w1.drewN n) := h.below (pw_below_drewN (Below.refl _ _) n)
theorem setCell (h : Touch S w w1) {p : Addr} (hp : S p.block ∨ w.heap.size ≤ p.block) (u : Value) : Touch S w (w1.setCell p u) :=
 ⟨h.os, h.tape, h.output, by have := h.size; simpa [World.setCell] using this, fun i hi hn => (Below.heap_setCell w1 p u i (fun e => hp.elim (fun hs => hn (e ▸ hs)) (fun hh => by omega))).trans (h.block i hi hn)⟩
theorem grown (h : Touch S w w1) {row : Option Nat} (hg : w1.grownBy w2 row) (hr : ∀ k, row = some k → S k ∨ w.heap.size ≤ k) : Touch S w w2 :=
 h.trans (S2 := fun k => row = some k) ⟨hg.os, hg.tape, hg.output, hg.size, fun i hi hn => hg.block i hi (fun e => hn e.symm)⟩ hr
theorem mono {S2 : Nat → Prop} (h : Touch S w w1) (hS : ∀ i, S i → S2 i ∨ w.heap.size ≤ i) : Touch S2 w w1 := ⟨h.os, h.tape, h.output, h.size, fun i hi hn => h.block i hi (fun hs => (hS i hs).elim hn (fun hh => by omega))⟩
theorem kept {o : Obj} {g : Nat} (h : Touch S w w1) (hb : w.heap[g]? = some o) (hn : ¬ S g) : w1.heap[g]? = some o := (h.block g (blk_lt hb) hn).trans hb
end Touch
end Go.Proofs.Ytgakmnholegbgaa.B
end
section
namespace Go.Proofs.Ytgakmnholegbgaa.B
open Go.RowKit Go.Proofs.YtgakmnholegbgaaW.PrintWords Go.Proofs.YtgakmnholegbgaaW.PrintLast Go.Proofs.YtgakmnholegbgaaW.PrintMore
set_option linter.unusedVariables false
set_option linter.unusedSimpArgs false
theorem setCells_frame (b : Nat) : ∀ (vs : List Value) (o : Nat) (w : World), (w.setCells b o vs).os = w.os ∧ (w.setCells b o vs).tape = w.tape ∧ (w.setCells b o vs).output = w.output ∧ (w.setCells b o vs).heap.size = w.heap.size ∧ (∀ k, k ≠ b → (w.setCells b o vs).heap[k]? = w.heap[k]?)
 | [], _, _ => ⟨rfl, rfl, rfl, rfl, fun _ _ => rfl⟩
 | v :: r, o, w => by
  obtain ⟨h1, h2, h3, h4, h5⟩ := setCells_frame b r (o + 1) (w.setCell ⟨b, o, none⟩ v)
  rw [World.setCells]
  refine ⟨h1, h2, h3, h4.trans (by simp [World.setCell]), fun k hk => (h5 k hk).trans ?_⟩
  exact Below.heap_setCell w ⟨b, o, none⟩ v k hk
theorem shape_setCell (w : World) (a : Addr) (v : Value) (r : Nat) : (w.setCell a v).shape? r = w.shape? r := by
 by_cases h : r = a.block
 ·subst h
  unfold World.setCell World.shape?
  simp only [Array.getElem?_modify, ↓reduceIte]
  cases hb : w.heap[a.block]? with
  | none => rfl
  | some o =>
   cases o <;> simp
   split <;> simp
 ·unfold World.shape?
  rw [Below.heap_setCell w a v r h]
theorem shape_setCells (b r : Nat) : ∀ (vs : List Value) (o : Nat) (w : World), (w.setCells b o vs).shape? r = w.shape? r
 | [], _, _ => rfl
 | v :: l, o, w => by rw [World.setCells, shape_setCells b r l, shape_setCell]
def RowV (w : World) (base : Nat) (e : TypeId) (sz : Nat) (v : Value) (n : Nat) (xs : List Value) : Prop :=
 xs.length = n * sz ∧ ((v = .slice none 0 0 ∧ n = 0) ∨
  ∃ g off cap, v = .slice (some ⟨g, off, none⟩) n cap ∧ base ≤ g ∧ (w.shape? g).map (·.1) = some e ∧ n ≤ cap ∧ cap ≤ maxLen ∧ (∀ j u, xs[j]? = some u → w.cell? ⟨g, off + j, none⟩ = some u) ∧ (∀ j, j < cap * sz → (w.cell? ⟨g, off + j, none⟩).isSome = true ∧ w.frozen? ⟨g, off + j, none⟩ = false))
theorem RowV.nil (w : World) (base : Nat) (e : TypeId) (sz : Nat) : RowV w base e sz (.slice none 0 0) 0 [] := ⟨by simp, .inl ⟨rfl, rfl⟩⟩
theorem RowV.of_own {w : World} {base : Nat} {e : TypeId} {sz : Nat} {v : Value} {n : Nat} {xs : List Value} (h : w.ownsRow base e sz v n xs) : RowV w base e sz v n xs := by
 obtain ⟨hl, h | ⟨g, cap, cur, rfl, hb, hg, hn, hc, hs, ht⟩⟩ := h
 ·exact ⟨hl, .inl h⟩
 ·refine ⟨hl, .inr ⟨g, 0, cap, rfl, hb, by simp [World.shape?, hg], hn, hc, fun j u hj => ?_, fun j hj => ⟨?_, ?_⟩⟩⟩
  ·rw [← ht, List.getElem?_take] at hj
   split at hj
   ·simp [World.cell?, hg]
    simpa using hj
   ·cases hj
  ·simp [World.cell?, hg]
   omega
  ·simp [World.frozen?, hg]
theorem RowV.form {w : World} {base : Nat} {e : TypeId} {sz : Nat} {v : Value} {n : Nat} {xs : List Value} (h : RowV w base e sz v n xs) : ∃ A c, v = .slice A n c ∧ n ≤ c ∧ c ≤ maxLen := by
 obtain ⟨_, ⟨rfl, rfl⟩ | ⟨g, off, cap, rfl, _, _, hn, hc, _⟩⟩ := h
 ·exact ⟨_, _, rfl, by omega, by decide⟩
 ·exact ⟨_, _, rfl, hn, hc⟩
theorem RowV.some_ {w : World} {base : Nat} {e : TypeId} {sz : Nat} {v : Value} {n : Nat} {xs : List Value} (h : RowV w base e sz v n xs) (h0 : 0 < n) : ∃ g off c, v = .slice (some ⟨g, off, none⟩) n c ∧ base ≤ g ∧ n ≤ c ∧ c ≤ maxLen ∧ (∀ j u, xs[j]? = some u → w.cell? ⟨g, off + j, none⟩ = some u) := by
 obtain ⟨_, ⟨rfl, rfl⟩ | ⟨g, off, cap, rfl, hb, _, hn, hc, hx, _⟩⟩ := h
 ·omega
 ·exact ⟨g, off, cap, rfl, hb, hn, hc, hx⟩
theorem RowV.keep {w w' : World} {base : Nat} {e : TypeId} {sz : Nat} {v : Value} {n : Nat} {xs : List Value} (h : RowV w base e sz v n xs) (hk : ∀ k, v.ownBlock = some k → base ≤ k → (w.shape? k).map (·.1) = some e → w'.heap[k]? = w.heap[k]?) : RowV w' base e sz v n xs := by
 obtain ⟨hl, ⟨rfl, rfl⟩ | ⟨g, off, cap, rfl, hb, hs, hn, hc, hx, hr⟩⟩ := h
 ·exact ⟨hl, .inl ⟨rfl, rfl⟩⟩
 ·have hg := hk g rfl hb hs
  refine ⟨hl, .inr ⟨g, off, cap, rfl, hb, by simpa [World.shape?, hg] using hs, hn, hc, fun j u hj => ?_, fun j hj => ?_⟩⟩
  ·rw [World.cell?_of_block hg]
   exact hx j u hj
  ·rw [World.cell?_of_block hg, World.frozen?_of_block hg]
   exact hr j hj
theorem RowV.lt {w : World} {base : Nat} {e : TypeId} {sz : Nat} {v : Value} {n : Nat} {xs : List Value} (h : RowV w base e sz v n xs) {k : Nat} (hk : v.ownBlock = some k) : k < w.heap.size ∧ base ≤ k ∧ (w.shape? k).map (·.1) = some e := by
 obtain ⟨hl, ⟨rfl, rfl⟩ | ⟨g, off, cap, rfl, hb, hs, hn, hc, hx, hr⟩⟩ := h
 ·cases hk
 ·have : g = k := by injection hk
  subst this
  refine ⟨?_, hb, hs⟩
  rcases Nat.lt_or_ge g w.heap.size with hlt | hge
  ·exact hlt
  ·simp [World.shape?, Array.getElem?_eq_none hge] at hs
theorem RowV.ne {w : World} {base : Nat} {e : TypeId} {sz : Nat} {v : Value} {n : Nat} {xs : List Value} (h : RowV w base e sz v n xs) {g : Nat} {cs : Array Value} {t : TypeId} {fr : Nat × Nat} (hg : w.heap[g]? = some (.cells cs t fr)) (ht : t ≠ e) : v.ownBlock ≠ some g := by
 intro hk
 have hs := (h.lt hk).2.2
 simp [World.shape?, hg] at hs
 exact ht hs
section
variable {P : Program} (w : World)
theorem row_append_run (t ty e : TypeId) (i : TypeInfo) (z : Value) (size bytes : Nat) (ht : P.underlying t = some (.slice e)) (hi : P.info? e = some i) (hz : i.zero = some z)
  (hsize : i.size = size) (hby : i.bytes = bytes) (hzs : z.cells.size = size) (hsz : 0 < size)
  (base : Nat) (v : Value) (n : Nat) (olds : List Value) (HR : RowV w base e size v n olds)
  (a : Addr) (m c : Nat) (news : List Value) (hl : news.length = m * size) (hnews : ∀ j u, news[j]? = some u → w.cell? (a.add j) = some u) (h1 : ∀ u ∈ news, u.oneCell' = true)
  (h63 : n + m ≤ maxLen) (hbytes : (n + m) * bytes ≤ 140737488355328) (hbase : base ≤ w.heap.size) :
  ∃ v' w', (Builtin.append_ #[t, t] ty #[v, .slice (some a) m c]).run P w = .ok v' w' ∧ RowV w' base e size v' (n + m) (olds ++ news) ∧ w.grownBy w' v.ownBlock ∧ (∀ k, v'.ownBlock = some k → v.ownBlock = some k ∨ w.heap.size ≤ k) ∧ (∀ A c, v = .slice A n c → c < n + m → w.grownBy w' none ∧ ∀ k, v'.ownBlock = some k → w.heap.size ≤ k) := by
 obtain ⟨hlo, ⟨rfl, rfl⟩ | ⟨g, off, cap, rfl, hb, hs, hn, hc, hx, hr⟩⟩ := HR
 ·obtain rfl : olds = [] := List.eq_nil_of_length_eq_zero (by simpa using hlo)
  obtain ⟨v', w', hrun, r1, r2, _⟩ := run_append_own (P := P) w w.heap.size t ty e i z size bytes ht hi hz hsize hby hzs hsz (.slice none 0 0) 0 [] (World.ownsRow_nil w _ e size) a m c news hl hnews h1 h63 hbytes (Nat.le_refl _)
  have hv := RowV.of_own r1
  refine ⟨v', w', hrun, ?_, r2, fun k hk => .inr (hv.lt hk).2.1, fun _ _ _ _ => ⟨r2, fun k hk => (hv.lt hk).2.1⟩⟩
  obtain ⟨q1, q2 | ⟨g, off, cap, q3, q4, q5⟩⟩ := hv
  ·exact ⟨q1, .inl q2⟩
  ·exact ⟨q1, .inr ⟨g, off, cap, q3, Nat.le_trans hbase q4, q5⟩⟩
 ·by_cases hroom : n + m ≤ cap
  ·have hcap : n * size + news.length ≤ cap * size := by rw [hl, ← Nat.add_mul]; exact Nat.mul_le_mul_right _ hroom
   subst hsize
   have hrun := run_append_room_cells (P := P) w t ty e i ht hi g off n cap a m c news hl hnews h1 hroom (fun j hj => by rw [Nat.add_assoc]; exact (hr _ (by omega)).1) (fun j hj => by rw [Nat.add_assoc]; exact (hr _ (by omega)).2)
   obtain ⟨f1, f2, f3, f4, f5⟩ := setCells_frame g news (off + n * i.size) w
   have hin : ∀ j, j < news.length → (w.cell? ⟨g, off + n * i.size + j, none⟩).isSome = true := fun j hj => by rw [Nat.add_assoc]; exact (hr _ (by omega)).1
   refine ⟨_, _, hrun, ⟨by rw [List.length_append, hlo, hl, Nat.add_mul], .inr ⟨g, off, cap, rfl, hb, by rw [shape_setCells]; exact hs, hroom, hc, fun j u hj => ?_, fun j hj => ⟨?_, ?_⟩⟩⟩, ⟨f1, f2, f3, Nat.le_of_eq f4.symm, fun k hk hne => f5 k (fun e => hne (by rw [e]; rfl))⟩, fun k hk => .inl hk, fun A c e1 e2 => by injection e1 with _ _ e3; omega⟩
   ·by_cases hj2 : j < n * i.size
    ·rw [World.cell?_setCells_out g news _ w ⟨g, off + j, none⟩ (fun _ _ => .inl (by show off + j < off + n * i.size; omega))]
     rw [List.getElem?_append_left (by omega)] at hj
     exact hx j u hj
    ·rw [List.getElem?_append_right (by omega), hlo] at hj
     have hlt : j - n * i.size < news.length := by
      rcases Nat.lt_or_ge (j - n * i.size) news.length with h | h
      ·exact h
      ·rw [List.getElem?_eq_none h] at hj
       cases hj
     have := World.cell?_setCells_in g news (off + n * i.size) w hin (j - n * i.size) hlt
     rw [show off + n * i.size + (j - n * i.size) = off + j by omega] at this
     rw [this]
     rw [List.getElem?_eq_getElem hlt] at hj
     exact hj
   ·by_cases hj2 : j < n * i.size ∨ n * i.size + news.length ≤ j
    ·rw [World.cell?_setCells_out g news _ w ⟨g, off + j, none⟩ (fun _ _ => by show off + j < off + n * i.size ∨ off + n * i.size + news.length ≤ off + j; omega)]
     exact (hr j hj).1
    ·have := World.cell?_setCells_in g news (off + n * i.size) w hin (j - n * i.size) (by omega)
     rw [show off + n * i.size + (j - n * i.size) = off + j by omega] at this
     rw [this]
     rfl
   ·rw [World.frozen?_setCells]
    exact (hr j hj).2
  ·obtain ⟨v', w', hrun, r1, r2⟩ := run_append_arg_grows (P := P) w t ty e i z size bytes ht hi hz hsize hby hzs hsz ⟨g, off, none⟩ n cap olds hlo (fun j u hj => by rw [Addr.add_lit]; exact hx j u hj) a m c news hl hnews (by omega) h63 hbytes
   have hv := RowV.of_own r1
   refine ⟨v', w', hrun, ?_, ⟨r2.os, r2.tape, r2.output, r2.size, fun k hk _ => r2.block k hk (by simp)⟩, fun k hk => .inr (hv.lt hk).2.1, fun _ _ _ _ => ⟨r2, fun k hk => (hv.lt hk).2.1⟩⟩
   obtain ⟨q1, q2 | ⟨g, off, cap, q3, q4, q5⟩⟩ := hv
   ·exact ⟨q1, .inl q2⟩
   ·exact ⟨q1, .inr ⟨g, off, cap, q3, Nat.le_trans hbase q4, q5⟩⟩
theorem row_append_step {o : Oper} {a : Act} {K : Act → World → Prop} {Q : Exit → Act → World → Prop} (s x : Operand) (t : TypeId)
  (ho : o.op = .call { callee := .builtin .append, args := #[s, x], argTypes := #[t, t] })
  (e : TypeId) (i : TypeInfo) (z : Value) (size bytes : Nat) (ht : P.underlying t = some (.slice e)) (hi : P.info? e = some i) (hz : i.zero = some z)
  (hsize : i.size = size) (hby : i.bytes = bytes) (hzs : z.cells.size = size) (hsz : 0 < size)
  (base : Nat) (v : Value) (n : Nat) (olds : List Value) (hs : a.eval s = v) (HR : RowV w base e size v n olds)
  (ad : Addr) (m c : Nat) (news : List Value) (hx : a.eval x = .slice (some ad) m c) (hl : news.length = m * size) (hnews : ∀ j u, news[j]? = some u → w.cell? (ad.add j) = some u) (h1 : ∀ u ∈ news, u.oneCell' = true)
  (h63 : n + m ≤ maxLen) (hbytes : (n + m) * bytes ≤ 140737488355328) (hbase : base ≤ w.heap.size)
  (h : ∀ v' w', RowV w' base e size v' (n + m) (olds ++ news) → w.grownBy w' v.ownBlock → (∀ k, v'.ownBlock = some k → v.ownBlock = some k ∨ w.heap.size ≤ k) → (∀ A c, v = .slice A n c → c < n + m → w.grownBy w' none ∧ ∀ k, v'.ownBlock = some k → w.heap.size ≤ k) → K (a.put o.dst v') w') : o.wp P a w K Q := by
 obtain ⟨v', w', hr, h2, h3, h4, h5⟩ := row_append_run (P := P) w t o.type e i z size bytes ht hi hz hsize hby hzs hsz base v n olds HR ad m c news hl hnews h1 h63 hbytes hbase
 unfold Oper.wp execOp
 simp only [ho, resolve, invoke, builtin, Sem.run_bind, Sem.run_pure, Result.andThen_ok, List.map_toArray, List.map_cons, List.map_nil, hs, hx, hr]
 exact h v' w' h2 h3 h4 h5
theorem row_append {ops : Array Oper} {rest : List Oper} {o : Oper} {a : Act} {Q : Exit → Act → World → Prop} (hgd : o.guard = none) (s x : Operand) (t : TypeId)
  (ho : o.op = .call { callee := .builtin .append, args := #[s, x], argTypes := #[t, t] })
  (e : TypeId) (i : TypeInfo) (z : Value) (size bytes : Nat) (ht : P.underlying t = some (.slice e)) (hi : P.info? e = some i) (hz : i.zero = some z)
  (hsize : i.size = size) (hby : i.bytes = bytes) (hzs : z.cells.size = size) (hsz : 0 < size)
  (base : Nat) (v : Value) (n : Nat) (olds : List Value) (hs : a.eval s = v) (HR : RowV w base e size v n olds)
  (ad : Addr) (m c : Nat) (news : List Value) (hx : a.eval x = .slice (some ad) m c) (hl : news.length = m * size) (hnews : ∀ j u, news[j]? = some u → w.cell? (ad.add j) = some u) (h1 : ∀ u ∈ news, u.oneCell' = true)
  (h63 : n + m ≤ maxLen) (hbytes : (n + m) * bytes ≤ 140737488355328) (hbase : base ≤ w.heap.size)
  (h : ∀ v' w', RowV w' base e size v' (n + m) (olds ++ news) → w.grownBy w' v.ownBlock → (∀ k, v'.ownBlock = some k → v.ownBlock = some k ∨ w.heap.size ≤ k) → (∀ A c, v = .slice A n c → c < n + m → w.grownBy w' none ∧ ∀ k, v'.ownBlock = some k → w.heap.size ≤ k) → wpList P ops Q rest (a.put o.dst v') w') : wpList P ops Q (o :: rest) a w :=
 wpList_plain hgd fun _ hK => row_append_step w s x t ho e i z size bytes ht hi hz hsize hby hzs hsz base v n olds hs HR ad m c news hx hl hnews h1 h63 hbytes hbase fun v' w' h2 h3 h4 h5 => hK _ _ (h v' w' h2 h3 h4 h5)
end
end Go.Proofs.Ytgakmnholegbgaa.B
end
section
namespace Go.Proofs.Ytgakmnholegbgaa.B
open Go.RowKit Go.Proofs.YtgakmnholegbgaaW.PrintWords Go.Proofs.YtgakmnholegbgaaW.PrintLast Go.Proofs.YtgakmnholegbgaaW.PrintMore
set_option linter.unusedVariables false
set_option linter.unusedSimpArgs false
def WrIs (w : World) (p T E : Nat) (l : List Bool) : Prop := ∃ v, w.heap[p]? = some (.cells #[v, .int .i64 (l.length : Int)] T (0, 0)) ∧ w.ownsRow (p + 1) E 1 v (packI l).length (nums .u8 (packI l))
theorem info5 : (Try.prog.info? 5).map (fun i => (i.zero, i.size, i.bytes)) = some (some (.int .u8 0), 1, 1) := by kernel_rfl
theorem or_bits (x y : Nat) (hx : x < 256) (hy : y < 256) : bits .or .u8 (x : Int) (y : Int) = ((x ||| y : Nat) : Int) := by
 have e : ∀ z : Nat, z < 256 → (BitVec.ofInt 8 (z : Int)).toNat = z := fun z hz => by rw [BitVec.ofInt_natCast, BitVec.toNat_ofNat]; exact Nat.mod_eq_of_lt (by omega)
 have hor : x ||| y < 2 ^ 8 := Nat.or_lt_two_pow (by omega) (by omega)
 show IntKind.u8.wrap ((BitVec.ofInt 8 (x : Int) ||| BitVec.ofInt 8 (y : Int)).toNat : Int) = _
 rw [BitVec.toNat_or, e x hx, e y hy, IntKind.wrap_u8]
 omega
theorem shl_small_bit (b : Bool) (r : Nat) (hr : r < 8) : b.toNat * 2 ^ r < 256 := by
 have h1 : b.toNat ≤ 1 := Bool.toNat_le b
 have h2 : 2 ^ r ≤ 2 ^ 7 := Nat.pow_le_pow_right (by omega) (by omega)
 calc b.toNat * 2 ^ r ≤ 1 * 2 ^ r := Nat.mul_le_mul_right _ h1
  _ < 256 := by omega
theorem packI_set (l : List Nat) (i z : Nat) : (l.set i z).map (fun x : Nat => (x : Int)) = (l.map fun x : Nat => (x : Int)).set i (z : Int) := by rw [List.map_set]
theorem packI_old (l : List Bool) (b : Bool) (h : ¬ l.length % 8 = 0) : packI (l ++ [b]) = (packI l).set (l.length / 8) ((byteAt l (l.length / 8) ||| (b.toNat * 2 ^ (7 - l.length % 8)) : Nat) : Int) := by
 rw [packI, pack_snoc_old l b h, packI_set]; rfl
theorem packI_new (l : List Bool) (b : Bool) (h : l.length % 8 = 0) : packI (l ++ [b]) = (packI l ++ [0]).set (l.length / 8) ((byteAt l (l.length / 8) ||| (b.toNat * 2 ^ (7 - l.length % 8)) : Nat) : Int) := by
 rw [packI, pack_snoc_new l b h, packI_set]; simp [packI]
theorem wr_end {w : World} {p T E g cap m : Nat} {l : List Bool} {b : Bool} {xs : List Int} {z : Nat} (HO : w.ownsRow (p + 1) E 1 (.slice (some ⟨g, 0, none⟩) m cap) m (nums .u8 xs))
  (hp : w.heap[p]? = some (.cells #[.slice (some ⟨g, 0, none⟩) m cap, .int .i64 (l.length : Int)] T (0, 0))) (hm : xs.length = m) (hz : packI (l ++ [b]) = xs.set (l.length / 8) (z : Int)) :
  WrIs ((w.setCell ⟨g, l.length / 8, none⟩ (.int .u8 (z : Int))).setCell ⟨p, 1, none⟩ (.int .i64 ((l.length : Int) + 1))).drew p T E (l ++ [b]) ∧
   Below p w ((w.setCell ⟨g, l.length / 8, none⟩ (.int .u8 (z : Int))).setCell ⟨p, 1, none⟩ (.int .i64 ((l.length : Int) + 1))).drew := by
 have hgb : p + 1 ≤ g := own_base HO g rfl
 have hst := own_store HO ((l.length / 8 : Nat) : Int) (z : Int)
 simp only [Int.toNat_natCast] at hst
 refine ⟨⟨.slice (some ⟨g, 0, none⟩) m cap, ?_, ?_⟩, (((Below.refl p w).setCell (p := ⟨g, l.length / 8, none⟩) (show p ≤ g by omega) _).setCell (p := ⟨p, 1, none⟩) (Nat.le_refl p) _).drew⟩
 ·have h1 := blk_set (blk_far hp (p := ⟨g, l.length / 8, none⟩) (by show p ≠ g; omega) (.int .u8 (z : Int))) 1 (.int .i64 ((l.length : Int) + 1))
  refine (show _ = _ from h1).trans ?_
  simp
 ·have h2 := own_setCell hst.1 (p := ⟨p, 1, none⟩) (by simp [Value.ownBlock]; omega) (.int .i64 ((l.length : Int) + 1))
  rw [hz, List.length_set, hm]
  exact h2
theorem mod_bit (y r : Nat) (h : y * 2 ^ r < 256) : ((y : Int) * 2 ^ r % 256) = ((y * 2 ^ r : Nat) : Int) := by
 have e : (y : Int) * 2 ^ r = ((y * 2 ^ r : Nat) : Int) := by rw [Int.natCast_mul, Int.natCast_pow]; rfl
 rw [e]
 omega
set_option maxHeartbeats 1000000 in
theorem bit_old (w : World) (p : Nat) (l : List Bool) (b : Bool) (h : WrIs w p 123 5 l) (hn : l.length < 524288) (h8 : ¬ (l.length % 8 = 0)) :
  Calls Try.prog 56 #[.pointer (some ⟨p, 0, none⟩), .int .u8 (b.toNat : Int)] w fun e w' => e = .returned (.tuple #[]) ∧ WrIs w' p 123 5 (l ++ [b]) ∧ Below p w w' := by
 obtain ⟨v, hp, HO⟩ := h
 have hlen : (packI l).length = (l.length + 7) / 8 := packI_length l
 obtain ⟨g, cap, rfl, hgb, hgl⟩ := HO.form (by omega)
 have hat := own_at HO ((l.length / 8 : Nat) : Int) (by omega) (by omega)
 rw [rd_packI l _ (by omega)] at hat
 simp only [Int.toNat_natCast] at hat
 obtain ⟨hx, hgf⟩ := hat
 have h0 := blk_cell hp 0
 have h1 := blk_cell hp 1
 have hf0 := blk_frozen hp 0
 have hf1 := blk_frozen hp 1
 simp only [List.getElem?_toArray, List.getElem?_cons_zero, List.getElem?_cons_succ] at h0 h1
 have hpl := blk_lt hp
 have hbd := byteAt_lt l (l.length / 8)
 have hsm := shl_small_bit b (7 - l.length % 8) (by omega)
 have hend := wr_end HO hp rfl (packI_old l b h8)
 have hor := or_bits _ _ hbd hsm
 have hy : b.toNat < 2 := Bool.toNat_lt b
 generalize l.length = n at *
 generalize (packI l).length = m at *
 generalize byteAt l (n / 8) = x at *
 generalize b.toNat = y at *
 have H3 := Aside0.mk hend
 have H8 := Aside0.mk hor
 have hnb : n / 8 < m := by omega
 have hne : g ≠ p := by omega
 clear hor hlen hend HO hp
 have h8' : ((n : Int) % 8 == 0) = false := by simp; omega
 go_enter Try.func56, Try.ntmps56
 go_wp2
 go_region
 all_goals go_wp2
 all_goals go_end0
 all_goals
  refine ⟨rfl, ?_⟩
  have hend := H3.out
  rw [← H8.out] at hend
  rw [mod_bit y _ hsm]
  exact hend
set_option maxHeartbeats 1000000 in
theorem bit_new (w : World) (p : Nat) (l : List Bool) (b : Bool) (h : WrIs w p 123 5 l) (hn : l.length < 524288) (h8 : l.length % 8 = 0) :
  Calls Try.prog 56 #[.pointer (some ⟨p, 0, none⟩), .int .u8 (b.toNat : Int)] w fun e w' => e = .returned (.tuple #[]) ∧ WrIs w' p 123 5 (l ++ [b]) ∧ Below p w w' := by
 obtain ⟨v, hp, HO⟩ := h
 have hlen : (packI l).length = (l.length + 7) / 8 := packI_length l
 have h0 := blk_cell hp 0
 have h1 := blk_cell hp 1
 have hf0 := blk_frozen hp 0
 have hf1 := blk_frozen hp 1
 simp only [List.getElem?_toArray, List.getElem?_cons_zero, List.getElem?_cons_succ] at h0 h1
 have hpl := blk_lt hp
 have hbd := byteAt_lt l (l.length / 8)
 have hbz := byteAt_zero l (l.length / 8) (by omega)
 have hsm := shl_small_bit b (7 - l.length % 8) (by omega)
 have hor := or_bits _ _ hbd hsm
 have hpk := packI_new l b h8
 have hy : b.toNat < 2 := Bool.toNat_lt b
 have hxs : rd (packI l ++ [0]) ((l.length / 8 : Nat) : Int) = 0 := by
  rw [show l.length / 8 = (packI l).length by omega]; simp [rd]
 have HP := Aside0.mk hp
 have HX := Aside0.mk hxs
 have HK := Aside0.mk hpk
 have HL := Aside0.mk hlen
 have HR := Aside0.mk hor
 have HZ := Aside0.mk hbz
 clear hp hxs hpk hlen hor hbz
 have h8' : ((l.length : Int) % 8 == 0) = true := by simp; omega
 have HU := Try.underlying87
 go_enter Try.func56, Try.ntmps56
 go_wp2_with (at_builtin; refine print_append_num (w0 := w) (p + 1) rfl (.tmp 14) (.tmp 15) 87 5 .u8 1 rfl HU info5 (by omega) v (packI l) 0 rfl rfl HO (Below.refl _ _) (by omega) (by have := HL.out; omega) ?_; intro v1 w1 HO1 HB1 HG1 HA1; obtain ⟨g, cap, rfl, hgb, hgl⟩ := HO1.form (by simp); have hp1 := blk_grown HP.out HG1 (fun e => by have := own_base HO p e.symm; omega); have hpl1 := blk_lt hp1; have k0 := blk_cell hp1 0; have k1 := blk_cell hp1 1; have kf0 := blk_frozen hp1 0; have kf1 := blk_frozen hp1 1; simp only [List.getElem?_toArray, List.getElem?_cons_zero, List.getElem?_cons_succ] at k0 k1; have hat := own_at HO1 ((l.length / 8 : Nat) : Int) (by omega) ((by have := HL.out; simp only [List.length_append, List.length_cons, List.length_nil]; omega)); rw [HX.out] at hat; simp only [Int.toNat_natCast] at hat; obtain ⟨hx, hgf⟩ := hat; have HP1 := Aside0.mk hp1; have HO2 := Aside0.mk HO1; clear hp1 HO1; have hne : g ≠ p := (by omega); have hnb : l.length / 8 < (packI l).length + 1 := (by have := HL.out; omega))
 go_region
 all_goals go_wp2
 all_goals go_end0
 all_goals
  have HO3 := own_setCell HO2.out (p := ⟨p, 0, none⟩) (by simp [Value.ownBlock]; omega) (.slice (some ⟨g, 0, none⟩) (packI l ++ [0]).length cap)
  have HP3 := blk_set HP1.out 0 (.slice (some ⟨g, 0, none⟩) (packI l ++ [0]).length cap)
  have hend := wr_end HO3 (by simpa using HP3) rfl HK.out
  refine ⟨rfl, ?_⟩
  rw [← HR.out, HZ.out] at hend
  have e : ((b.toNat * 2 ^ (7 - l.length % 8) : Nat) : Int) = (b.toNat : Int) * 128 % 256 := by rw [h8]; omega
  rw [e] at hend
  simp only [List.length_append, List.length_singleton] at hend
  exact ⟨hend.1, ((HB1.mono (by omega)).setCell (p := ⟨p, 0, none⟩) (Nat.le_refl p) _).trans hend.2⟩
theorem bit_any (w : World) (p : Nat) (l : List Bool) (b : Bool) (h : WrIs w p 123 5 l) (hn : l.length < 524288) :
  Calls Try.prog 56 #[.pointer (some ⟨p, 0, none⟩), .int .u8 (b.toNat : Int)] w fun e w' => e = .returned (.tuple #[]) ∧ WrIs w' p 123 5 (l ++ [b]) ∧ Below p w w' := by
 by_cases h8 : l.length % 8 = 0
 ·exact bit_new w p l b h hn h8
 ·exact bit_old w p l b h hn h8
theorem and_one_u32 (v j : Nat) (hv : v < 4294967296) : bits .and .u32 ((v : Int) / 2 ^ j) 1 = ((v.testBit j).toNat : Int) := by
 have e : ((v : Int) / 2 ^ j) = ((v / 2 ^ j : Nat) : Int) := by rw [Int.natCast_ediv, Int.natCast_pow]; rfl
 have hlt : v / 2 ^ j < 4294967296 := Nat.lt_of_le_of_lt (Nat.div_le_self _ _) hv
 have e32 : ∀ z : Nat, z < 4294967296 → (BitVec.ofInt 32 (z : Int)).toNat = z := fun z hz => by rw [BitVec.ofInt_natCast, BitVec.toNat_ofNat]; exact Nat.mod_eq_of_lt (by omega)
 rw [e]
 show IntKind.u32.wrap ((BitVec.ofInt 32 ((v / 2 ^ j : Nat) : Int) &&& BitVec.ofInt 32 ((1 : Nat) : Int)).toNat : Int) = _
 rw [BitVec.toNat_and, e32 _ hlt, e32 1 (by omega), Nat.and_one_is_mod, IntKind.wrap_u32, Nat.testBit_eq_decide_div_mod_eq]
 rcases Nat.mod_two_eq_zero_or_one (v / 2 ^ j) with h | h <;> simp [h]
theorem rwrite_any (w : World) : Calls Try.prog 29 #[] w fun e w' => e = .returned (.pointer (some ⟨w.heap.size, 0, none⟩)) ∧ WrIs w' w.heap.size 123 5 [] ∧ Below w.heap.size w w' := by
 go_enter Try.func29, Try.ntmps29
 go_wp2
 go_ret
 exact ⟨rfl, ⟨_, blk_new _ _, own_nil _ _ _ _⟩, (Below.refl _ _).alloc (Nat.le_refl _) _⟩
theorem rtext_any (w : World) (p : Nat) (l : List Bool) (h : WrIs w p 123 5 l) :
  Calls Try.prog 32 #[.pointer (some ⟨p, 0, none⟩)] w fun e w' => e = .returned (.string (strOfNums (packI l))) ∧ w' = w := by
 obtain ⟨v, hp, HO⟩ := h
 have h0 := blk_cell hp 0
 simp only [List.getElem?_toArray, List.getElem?_cons_zero] at h0
 have hc := own_string (P := Try.prog) (src := 87) (dst := 9) Try.underlying87 Try.underlying5 Try.underlying9 HO
 clear hp HO
 go_enter Try.func32, Try.ntmps32
 go_wp2
 go_ret
 exact ⟨rfl, rfl⟩
set_option maxHeartbeats 1000000 in
theorem rput_any (w : World) (p : Nat) (l : List Bool) (v n : Nat) (h : WrIs w p 123 5 l) (hv : v < 4294967296) (hn : n ≤ 32) (hl : l.length + n ≤ 524288) :
  Calls Try.prog 30 #[.pointer (some ⟨p, 0, none⟩), .int .u32 (v : Int), .int .i64 (n : Int)] w fun e w' => e = .returned (.tuple #[]) ∧ WrIs w' p 123 5 (l ++ toBits n v) ∧ Below p w w' := by
 have h' := h
 obtain ⟨vv, hp, HO⟩ := h'
 have h0 := blk_cell hp 0
 have h1 := blk_cell hp 1
 simp only [List.getElem?_toArray, List.getElem?_cons_zero, List.getElem?_cons_succ] at h0 h1
 clear hp HO
 go_enter Try.func30, Try.ntmps30
 go_wp2
 go_loopw [6] (fun iv wr => ∃ (k : Int) (l' : List Bool), iv = .int .i64 k ∧ (-1 ≤ k ∧ k ≤ 31) ∧ l' ++ toBits (k + 1).toNat v = l ++ toBits n v ∧ WrIs wr p 123 5 l' ∧ Below p w wr) (fun iv _ => (intOf iv + 1).toNat)
 case atStart => exact ⟨(n : Int) - 1, l, rfl, ⟨by omega, by omega⟩, by rw [show ((n : Int) - 1 + 1).toNat = n by omega], h, Below.refl _ _⟩
 case round =>
  obtain ⟨k, l', rfl, ⟨hk0, hk1⟩, he, hW, hB⟩ := hrel
  have hlen : l'.length + (k + 1).toNat = l.length + n := by have := congrArg List.length he; simpa [toBits_length] using this
  have HE := Aside0.mk he
  have HL := Aside0.mk hlen
  clear he hlen
  by_cases hpos : 0 ≤ k
  ·have HA := Aside0.mk (and_one_u32 v k.toNat hv)
   go_wp2_with fail
   rw [HA.out]
   rw [show (((v.testBit k.toNat).toNat : Int) % 256) = ((v.testBit k.toNat).toNat : Int) from by have := Bool.toNat_lt (v.testBit k.toNat); omega]
   refine (bit_any _ _ _ _ hW (by have := HL.out; omega)).mono ?_
   rintro e w1 ⟨rfl, hW1, hB1⟩
   go_wp2
   go_roundw
   case rel =>
    refine ⟨k - 1, _, rfl, ⟨by omega, by omega⟩, ?_, hW1, hB.trans hB1⟩
    rw [← HE.out, show (k + 1).toNat = (k - 1 + 1).toNat + 1 by omega, show (k - 1 + 1).toNat = k.toNat by omega]
    simp [toBits]
   case measure => simp [intOf]; omega
  ·go_wp2
   go_end0
   refine ⟨rfl, ?_, hB⟩
   rw [← HE.out, show (k + 1).toNat = 0 by omega]
   simpa [toBits] using hW
def RdIs (w : World) (p T : Nat) (s : ByteArray) (at_ : Int) (bad : Bool) : Prop := w.heap[p]? = some (.cells #[.string s, .int .i64 at_, .bool bad] T (0, 0))
theorem only_drewN {a w : World} {row : Option Nat} (h : a.grownBy w row) (n : Nat) : a.grownBy (w.drewN n) row := ⟨h.os, h.tape, h.output, h.size, h.block⟩
theorem only_drew {a w : World} {row : Option Nat} (h : a.grownBy w row) : a.grownBy w.drew row := ⟨h.os, h.tape, h.output, h.size, h.block⟩
theorem only_setCell {a w : World} {g : Nat} (h : a.grownBy w (some g)) {p : Addr} (hp : p.block = g) (u : Value) : a.grownBy (w.setCell p u) (some g) :=
 ⟨h.os, h.tape, h.output, by simpa [World.setCell] using h.size, fun i hi hne => (Below.heap_setCell w p u i (by rintro rfl; exact hne (by rw [hp]))).trans (h.block i hi hne)⟩
theorem only_trans {a b c : World} {row : Option Nat} (h : a.grownBy b row) (k : b.grownBy c row) : a.grownBy c row :=
 ⟨k.os.trans h.os, k.tape.trans h.tape, k.output.trans h.output, Nat.le_trans h.size k.size, fun i hi hne => (k.block i (Nat.lt_of_lt_of_le hi h.size) hne).trans (h.block i hi hne)⟩
theorem wp_scope_goto {P : Program} {a : Act} {w : World} {Q : Exit → Act → World → Prop} {c rest : Code} (l : Nat) (J : Act → World → Prop) (μ : Act → World → Nat) (hf : findLabel c l = some (.seq .skip rest))
  (pass : ∀ a w, J a w → rest.wp P (Exit.jump l (fun a' w' => J a' w' ∧ μ a' w' < μ a w) Q) a w)
  (first : Aside0 (∀ a w, J a w → rest.wp P (Exit.jump l J Q) a w) → c.wp P (Exit.jump l J Q) a w) : (Code.scope c).wp P Q a w :=
 wp_scope_jumps l J μ hf (first ⟨fun a w h => Code.wp_mono (fun e a' w' q => by cases e <;> first | exact q | exact ⟨q.1, q.2.1⟩) (pass a w h)⟩) (fun a w h => wp_seq (wp_skip (pass a w h)))
def GetJ (w : World) (p T : Nat) (s : ByteArray) (a n : Nat) (a' : Act) (w' : World) : Prop :=
 ∃ (k : Nat) (q7 q8 q9 q10 q11 q12 q13 q14 q15 q16 q17 q18 q19 q20 q21 q22 q23 q24 q25 q26 q27 q28 q29 q30 q31 q32 q33 q34 q35 q36 q37 q38 q39 q40 q41 q42 q43 q44 q45 q46 q47 q48 q49 q50 q51 q52 q53 q54 q55 q56 q57 q58 q59 q60 q61 q62 q63 q64 q65 q66 q67 q68 q69 q70 q71 q72 q73 q74 q75 q76 q77 q78 q79 q80 : Value), a' = { tmps := #[.pointer (some ⟨p, 0, none⟩), .int .i64 (n : Int), undef, undef, .int .u32 0, .int .u32 (rdBits s a k : Int), .int .i64 ((a : Int) + (n : Int)), q7, q8, q9, q10, q11, q12, q13, q14, q15, q16, q17, q18, q19, q20, q21, q22, q23, q24, q25, q26, q27, q28, q29, q30, q31, q32, q33, q34, q35, q36, q37, q38, q39, q40, q41, q42, q43, q44, q45, q46, q47, q48, q49, q50, q51, q52, q53, q54, q55, q56, q57, q58, q59, q60, q61, q62, q63, q64, q65, q66, q67, q68, q69, q70, q71, q72, q73, q74, q75, q76, q77, q78, q79, q80], defers := [] } ∧ k ≤ n ∧ (∃ c : Nat, c = a + k ∧ RdIs w' p T s (c : Int) false) ∧ w.grownBy w' (some p)
theorem get_bit (s : ByteArray) (a k : Nat) (v : Nat) (hv : v < 2147483648) : bits .or .u32 ((v : Int) * 2) (bits .and .u8 (bt s (((a + k : Nat) : Int) / 8) / 2 ^ (7 - (a + k) % 8)) 1 % 4294967296) = ((2 * v + (bitN s (a + k)).toNat : Nat) : Int) := by
 have hb := Bool.toNat_lt (bitN s (a + k))
 rw [show (((a + k : Nat) : Int) / 8) = (((a + k) / 8 : Nat) : Int) from by omega, byteN_bt, and_one_u8 _ _ (byteN_lt s _)]
 show bits .or .u32 ((v : Int) * 2) (((bitN s (a + k)).toNat : Int) % 4294967296) = _
 rw [show ((v : Int) * 2) = ((2 * v : Nat) : Int) by omega, show (((bitN s (a + k)).toNat : Int) % 4294967296) = ((bitN s (a + k)).toNat : Int) by omega]
 exact or_even_u32 v _ hv
set_option maxHeartbeats 2000000 in
theorem get_good (w : World) (p : Nat) (s : ByteArray) (a n : Nat) (h : RdIs w p 146 s (a : Int) false) (hs : s.size ≤ 1000000000000) (ha : a ≤ 8 * s.size) (hn : n ≤ 32) (hl : a + n ≤ 8 * s.size) :
  Calls Try.prog 58 #[.pointer (some ⟨p, 0, none⟩), .int .i64 (n : Int)] w fun e w' => e = .returned (.int .u32 (rdBits s a n : Int)) ∧ RdIs w' p 146 s ((a : Int) + (n : Int)) false ∧ w.grownBy w' (some p) := by
 have h0 := blk_cell h 0
 have h1 := blk_cell h 1
 have h2 := blk_cell h 2
 simp only [List.getElem?_toArray, List.getElem?_cons_zero, List.getElem?_cons_succ] at h0 h1 h2
 have H := Aside0.mk h
 clear h
 have hd0 : decide ((n : Int) < 0) = false := by simp
 have hd1 : decide (32 < (n : Int)) = false := by simp; omega
 have hd2 : decide (8 * (s.size : Int) - (a : Int) < (n : Int)) = false := by simp; omega
 go_enter Try.func58, Try.ntmps58
 go_wp2
 refine wp_scope_goto 0 (GetJ w p 146 s a n) (fun _ w' => ((a : Int) + (n : Int) - intOf ((w'.cell? ⟨p, 1, none⟩).getD undef)).toNat) rfl ?_ ?_
 ·rintro a' w' ⟨k, q7, q8, q9, q10, q11, q12, q13, q14, q15, q16, q17, q18, q19, q20, q21, q22, q23, q24, q25, q26, q27, q28, q29, q30, q31, q32, q33, q34, q35, q36, q37, q38, q39, q40, q41, q42, q43, q44, q45, q46, q47, q48, q49, q50, q51, q52, q53, q54, q55, q56, q57, q58, q59, q60, q61, q62, q63, q64, q65, q66, q67, q68, q69, q70, q71, q72, q73, q74, q75, q76, q77, q78, q79, q80, rfl, hk, ⟨c, hc, HW⟩, HG⟩
  have c0 := blk_cell HW 0
  have c1 := blk_cell HW 1
  have f1 := blk_frozen HW 1
  simp only [List.getElem?_toArray, List.getElem?_cons_zero, List.getElem?_cons_succ] at c0 c1
  have HW' := Aside0.mk HW
  clear HW h0 h1 h2
  obtain ⟨E, hE⟩ : ∃ E : Int, (a : Int) + (n : Int) = E := ⟨_, rfl⟩
  rw [hE]
  by_cases hlt : k < n
  ·have hb1 : c / 8 < s.size := by omega
   have hcE : (c : Int) < E := by omega
   have hbt := bt_at s ((c : Int) / 8)
   have hw8 : IntKind.i64.wrap ((c : Int) / 8) = (c : Int) / 8 := by rw [IntKind.wrap_i64]; omega
   have hlo : 0 ≤ (c : Int) / 8 := by omega
   have hhi : (c : Int) / 8 < (s.size : Int) := by omega
   have hv := rdBits_lt31 s a k (by omega)
   have HB := Aside0.mk (get_bit s a k _ hv)
   obtain ⟨V, hV⟩ : ∃ V : Nat, rdBits s a k = V := ⟨_, rfl⟩
   rw [hV, ← hc] at HB
   rw [hV] at hv ⊢
   have HV := Aside0.mk hV
   have HC := Aside0.mk hc
   have HE := Aside0.mk hE
   have hc9 : c < 8000000000001 := by omega
   clear hV hc hE hl ha
   go_wp2
   go_region
   all_goals go_wp2
   all_goals
    rw [HB.out, show ((2 * V + (bitN s c).toNat : Nat) : Int) = (rdBits s a (k + 1) : Int) from by rw [← HV.out, HC.out]; rfl, ← HE.out]
    go_step3
    refine ⟨rfl, ⟨k + 1, _, _, _, _, _, _, _, _, _, _, _, _, _, _, _, _, _, _, _, _, _, _, _, _, _, _, _, _, _, _, _, _, _, _, _, _, _, _, _, _, _, _, _, _, _, _, _, _, _, _, _, _, _, _, _, _, _, _, _, _, _, _, _, _, _, _, _, _, _, _, _, _, _, _, rfl, by omega, ⟨c + 1, by have := HC.out; omega, ?_⟩, ?_⟩, ?_⟩
    ·have h1 := blk_set HW'.out 1 (.int .i64 ((c : Int) + 1))
     refine (show _ = _ from h1).trans ?_
     simp
    ·exact only_drew (only_setCell HG rfl _)
    ·have h1 := blk_cell (blk_set HW'.out 1 (.int .i64 ((c : Int) + 1))) 1
     simp only [World.cell?_drew, h1, c1]
     simp [intOf]
     have := HE.out
     omega
  ·have hcE : ¬ (c : Int) < E := by omega
   have HN := Aside0.mk (show k = n by omega)
   have HC := Aside0.mk hc
   have HE := Aside0.mk hE
   clear hc hE
   go_wp2
   simp only [Exit.jump]
   go_ret
   obtain rfl := HN.out
   exact ⟨rfl, by rw [show (a : Int) + (k : Int) = (c : Int) by have := HC.out; omega]; exact HW'.out, HG⟩
 ·intro hrest
  go_wp2
  go_quiet (fail)
  go_wp2
  go_step3
  rename_i K hK
  refine hK _ _ (hrest.out _ _ ⟨0, _, _, _, _, _, _, _, _, _, _, _, _, _, _, _, _, _, _, _, _, _, _, _, _, _, _, _, _, _, _, _, _, _, _, _, _, _, _, _, _, _, _, _, _, _, _, _, _, _, _, _, _, _, _, _, _, _, _, _, _, _, _, _, _, _, _, _, _, _, _, _, _, _, _, rfl, by omega, ?_, ?_⟩)
  ·exact ⟨a, by omega, H.out⟩
  ·exact only_drewN (World.grownBy.refl w _) _
set_option maxHeartbeats 1000000 in
theorem get_was (w : World) (p : Nat) (s : ByteArray) (a n : Int) (h : RdIs w p 146 s a true) :
  Calls Try.prog 58 #[.pointer (some ⟨p, 0, none⟩), .int .i64 n] w fun e w' => e = .returned (.int .u32 0) ∧ RdIs w' p 146 s a true ∧ w.grownBy w' (some p) := by
 have h2 := blk_cell h 2
 simp only [List.getElem?_toArray, List.getElem?_cons_zero, List.getElem?_cons_succ] at h2
 have H := Aside0.mk h
 clear h
 go_enter Try.func58, Try.ntmps58
 go_wp2
 go_step3
 go_wp2
 rw [Exit.noGoto_ret]
 go_ret
 exact ⟨rfl, H.out, World.grownBy.refl w _⟩
set_option maxHeartbeats 1000000 in
theorem get_over (w : World) (p : Nat) (s : ByteArray) (a n : Int) (h : RdIs w p 146 s a false) (hs : s.size ≤ 1000000000000) (ha : 0 ≤ a ∧ a ≤ 8 * s.size) (hb : n < 0 ∨ n > 32 ∨ n > 8 * (s.size : Int) - a) :
  Calls Try.prog 58 #[.pointer (some ⟨p, 0, none⟩), .int .i64 n] w fun e w' => e = .returned (.int .u32 0) ∧ RdIs w' p 146 s a true ∧ w.grownBy w' (some p) := by
 have h0 := blk_cell h 0
 have h1 := blk_cell h 1
 have h2 := blk_cell h 2
 have f2 := blk_frozen h 2
 simp only [List.getElem?_toArray, List.getElem?_cons_zero, List.getElem?_cons_succ] at h0 h1 h2
 obtain ⟨ha0, ha1⟩ := ha
 have hst := blk_set h 2 (.bool true)
 have H := Aside0.mk hst
 clear h hst
 by_cases b0 : n < 0
 ·have hd0 : decide (n < 0) = true := decide_eq_true b0
  clear hb
  go_enter Try.func58, Try.ntmps58
  go_wp2
  go_step3
  go_wp2
  go_quiet (fail)
  go_wp2
  rw [Exit.noGoto_ret]
  go_ret
  exact ⟨rfl, by refine (show _ = _ from H.out).trans ?_; simp, only_setCell (only_drewN (World.grownBy.refl w _) _) rfl _⟩
 ·have hd0 : decide (n < 0) = false := decide_eq_false b0
  by_cases b1 : 32 < n
  ·have hd1 : decide (32 < n) = true := decide_eq_true b1
   clear hb
   go_enter Try.func58, Try.ntmps58
   go_wp2
   go_step3
   go_wp2
   go_quiet (fail)
   go_wp2
   rw [Exit.noGoto_ret]
   go_ret
   exact ⟨rfl, by refine (show _ = _ from H.out).trans ?_; simp, only_setCell (only_drewN (World.grownBy.refl w _) _) rfl _⟩
  ·have hd1 : decide (32 < n) = false := decide_eq_false b1
   have hd2 : decide (8 * (s.size : Int) - a < n) = true := decide_eq_true (by omega)
   clear hb
   go_enter Try.func58, Try.ntmps58
   go_wp2
   go_step3
   go_wp2
   go_quiet (fail)
   go_wp2
   rw [Exit.noGoto_ret]
   go_ret
   exact ⟨rfl, by refine (show _ = _ from H.out).trans ?_; simp, only_setCell (only_drewN (World.grownBy.refl w _) _) rfl _⟩
end Go.Proofs.Ytgakmnholegbgaa.B
end
section
namespace Go.Proofs.Ytgakmnholegbgaa.B
open Go.RowKit Go.Proofs.YtgakmnholegbgaaW.PrintWords Go.Proofs.YtgakmnholegbgaaW.PrintLast Go.Proofs.YtgakmnholegbgaaW.PrintMore
set_option linter.unusedVariables false
set_option linter.unusedSimpArgs false
theorem RowV.touch {w w' : World} {S : Nat → Prop} {base : Nat} {e : TypeId} {sz : Nat} {v : Value} {n : Nat} {xs : List Value} (h : RowV w base e sz v n xs) (T : Touch S w w') (hS : ∀ k, v.ownBlock = some k → ¬ S k) : RowV w' base e sz v n xs :=
 h.keep (fun k hk _ _ => T.block k (h.lt hk).1 (hS k hk))
theorem RowV.below {w w' : World} {base : Nat} {e : TypeId} {sz : Nat} {v : Value} {n : Nat} {xs : List Value} (h : RowV w base e sz v n xs) (hb : Below w.heap.size w w') : RowV w' base e sz v n xs := h.touch (Touch.of_below (S := fun _ => False) hb) (fun _ _ hf => hf)
theorem RowV.alloc {w : World} {base : Nat} {e : TypeId} {sz : Nat} {v : Value} {n : Nat} {xs : List Value} (h : RowV w base e sz v n xs) (o : Obj) : RowV (w.alloc o) base e sz v n xs := h.below ((Below.refl _ _).alloc (Nat.le_refl _) _)
theorem RowV.setCell {w : World} {base : Nat} {e : TypeId} {sz : Nat} {v : Value} {n : Nat} {xs : List Value} (h : RowV w base e sz v n xs) {p : Addr} (u : Value) (hp : v.ownBlock ≠ some p.block) : RowV (w.setCell p u) base e sz v n xs :=
 h.keep (fun k hk _ _ => Below.heap_setCell w p u k (fun e => hp (e ▸ hk)))
theorem RowV.low {w : World} {base b2 : Nat} {e : TypeId} {sz : Nat} {v : Value} {n : Nat} {xs : List Value} (h : RowV w base e sz v n xs) (hb : b2 ≤ base) : RowV w b2 e sz v n xs := by
 obtain ⟨q1, q2 | ⟨g, off, cap, q3, q4, q5⟩⟩ := h
 ·exact ⟨q1, .inl q2⟩
 ·exact ⟨q1, .inr ⟨g, off, cap, q3, Nat.le_trans hb q4, q5⟩⟩
theorem RowV.empty (w : World) (base : Nat) (e : TypeId) (sz : Nat) (hb : base ≤ w.heap.size) : RowV (w.alloc (.cells #[] e)) base e sz (.slice (some ⟨w.heap.size, 0, none⟩) 0 0) 0 [] :=
 ⟨by simp, .inr ⟨w.heap.size, 0, 0, rfl, hb, by simp only [World.shape?, blk_new w (.cells #[] e)]; rfl, Nat.le_refl _, Nat.zero_le _, fun j u h => (by simp at h), fun j h => (by simp at h)⟩⟩
theorem below_new {w w1 w5 : World} {row : Option Nat} (hb : Below w.heap.size w w1) (hG : w1.grownBy w5 row) (hr : ∀ k, row = some k → w.heap.size ≤ k) : Below w.heap.size w w5 :=
 ⟨hG.os.trans hb.os, hG.tape.trans hb.tape, hG.output.trans hb.output, Nat.le_trans hb.size hG.size, fun k hk => (hG.block k (Nat.lt_of_lt_of_le hk hb.size) (fun e => by have := hr k e.symm; omega)).trans (hb.block k hk)⟩
theorem new_news (w : World) (cs : List Value) (t : TypeId) : ∀ j u, cs[j]? = some u → (w.alloc (.cells cs.toArray t)).cell? ((⟨w.heap.size, 0, none⟩ : Addr).add j) = some u := by
 intro j u h
 rw [Addr.add_lit, Nat.zero_add, blk_cell (blk_new w _) j]
 simpa using h
end Go.Proofs.Ytgakmnholegbgaa.B
end
section
namespace Go.Proofs.Ytgakmnholegbgaa.B
open Go.RowKit Go.Proofs.YtgakmnholegbgaaW.PrintWords
abbrev P3 := Int × Int × ByteArray
def partOk (x : P3) : Bool := decide (0 ≤ x.1 ∧ x.1 ≤ 31 ∧ 192 ≤ x.2.1 ∧ x.2.1 ≤ 223 ∧ x.2.2.size % 4 = 0 ∧ x.2.2.size ≤ 262140)
theorem partOk_iff (x : P3) : partOk x = true ↔ 0 ≤ x.1 ∧ x.1 ≤ 31 ∧ 192 ≤ x.2.1 ∧ x.2.1 ≤ 223 ∧ x.2.2.size % 4 = 0 ∧ x.2.2.size ≤ 262140 := by simp [partOk]
def partBytes (x : P3) : List UInt8 := [UInt8.ofNat (128 + x.1.toNat), UInt8.ofNat x.2.1.toNat, UInt8.ofNat (x.2.2.size / 4 / 256), UInt8.ofNat (x.2.2.size / 4 % 256)] ++ x.2.2.data.toList
def sizeP (x : P3) : Nat := 4 + x.2.2.size
theorem partBytes_length (x : P3) : (partBytes x).length = sizeP x := by
 simp only [partBytes, sizeP, List.length_append, List.length_cons, List.length_nil, Array.length_toList]
 rfl
def total (l : List P3) : Nat := (l.map sizeP).sum
theorem total_nil : total [] = 0 := rfl
theorem total_snoc (l : List P3) (x : P3) : total (l ++ [x]) = total l + sizeP x := by simp [total]
theorem total_cons (l : List P3) (x : P3) : total (x :: l) = sizeP x + total l := by simp [total]
theorem total_append (l m : List P3) : total (l ++ m) = total l + total m := by simp [total]
def allBytes (l : List P3) : List UInt8 := l.flatMap partBytes
theorem allBytes_length (l : List P3) : (allBytes l).length = total l := by
 induction l with
 | nil => rfl
 | cons x l ih => rw [total_cons, ← ih, ← partBytes_length]; simp [allBytes]
theorem allBytes_snoc (l : List P3) (x : P3) : allBytes (l ++ [x]) = allBytes l ++ partBytes x := by simp [allBytes]
theorem total_take (l : List P3) (i : Nat) : total (l.take i) ≤ total l := by
 have := total_append (l.take i) (l.drop i)
 rw [List.take_append_drop] at this
 omega
def joinP (l : List P3) : ByteArray × Int :=
 if l = [] then (⟨#[]⟩, 1) else if ¬ (l.all partOk = true) then (⟨#[]⟩, 1) else if 65536 < total l then (⟨#[]⟩, 2) else (⟨(allBytes l).toArray⟩, 0)
end Go.Proofs.Ytgakmnholegbgaa.B
end
section
namespace Go.Proofs.Ytgakmnholegbgaa.B
open Go.RowKit Go.Proofs.YtgakmnholegbgaaW.PrintWords
theorem rdBits_add (s : ByteArray) (a n m : Nat) : rdBits s a (n + m) = rdBits s a n * 2 ^ m + rdBits s (a + n) m := by
 induction m with
 | zero => simp [rdBits]
 | succ m ih =>
  rw [← Nat.add_assoc, rdBits, ih, rdBits, Nat.pow_succ, Nat.mul_add, Nat.mul_left_comm, Nat.add_assoc a n m]
  rw [Nat.mul_comm 2 (2 ^ m)]
  omega
theorem rdBits_in (s : ByteArray) (a n : Nat) (h : a % 8 + n ≤ 8) : rdBits s a n = byteN s (a / 8) / 2 ^ (8 - a % 8 - n) % 2 ^ n := by
 induction n with
 | zero => simp [rdBits, Nat.mod_one]
 | succ n ih =>
  rw [rdBits, ih (by omega)]
  have e1 : (a + n) / 8 = a / 8 := by omega
  have e2 : (a + n) % 8 = a % 8 + n := by omega
  unfold bitN
  rw [e1, e2, show 8 - a % 8 - n = 8 - a % 8 - (n + 1) + 1 by omega, show 7 - (a % 8 + n) = 8 - a % 8 - (n + 1) by omega]
  generalize 8 - a % 8 - (n + 1) = K
  generalize byteN s (a / 8) = v
  rw [Nat.testBit_eq_decide_div_mod_eq]
  have e3 : (decide (v / 2 ^ K % 2 = 1)).toNat = v / 2 ^ K % 2 := by
   by_cases h : v / 2 ^ K % 2 = 1
   ·rw [h]; rfl
   ·have : v / 2 ^ K % 2 = 0 := by omega
    rw [this]; rfl
  rw [e3, Nat.pow_succ, ← Nat.div_div_eq_div_mul]
  generalize v / 2 ^ K = u
  rw [Nat.pow_succ, Nat.mul_comm (2 ^ n) 2, Nat.mod_mul]
  omega
theorem rd_mark (s : ByteArray) : rdBits s 0 2 = byteN s 0 / 64 % 4 := rdBits_in s 0 2 (by omega)
theorem rd_pad (s : ByteArray) : rdBits s 2 1 = byteN s 0 / 32 % 2 := rdBits_in s 2 1 (by omega)
theorem rd_count (s : ByteArray) : rdBits s 3 5 = byteN s 0 % 32 := by
 have := rdBits_in s 3 5 (by omega)
 simpa using this
theorem rd_type (s : ByteArray) : rdBits s 8 8 = byteN s 1 := by
 have h := rdBits_in s 8 8 (by omega)
 have := byteN_lt s 1
 simp at h
 rw [h]
 omega
theorem rd_words (s : ByteArray) : rdBits s 16 16 = byteN s 2 * 256 + byteN s 3 := by
 rw [show (16 : Nat) = 8 + 8 by rfl, rdBits_add s 16 8 8]
 have h2 := rdBits_in s 16 8 (by omega)
 have h3 := rdBits_in s 24 8 (by omega)
 have l2 := byteN_lt s 2
 have l3 := byteN_lt s 3
 simp at h2 h3
 rw [h2, show 16 + 8 = 24 by rfl, h3]
 omega
def partSize (s : ByteArray) : Nat := 4 + 4 * (byteN s 2 * 256 + byteN s 3)
def padN (s : ByteArray) : Nat := if 4 < partSize s then byteN s (partSize s - 1) else 0
def partErr (s : ByteArray) : Int :=
 if s.size < 4 then 60 else if s.size < partSize s then 60 else if byteN s 0 / 64 % 4 ≠ 2 then 70 else if byteN s 1 < 192 ∨ 223 < byteN s 1 then 81 else
  if byteN s 0 / 32 % 2 = 1 ∧ ¬ (partSize s = s.size ∧ 4 ≤ padN s ∧ padN s % 4 = 0 ∧ padN s ≤ partSize s - 4) then 91 else 0
def partBody (s : ByteArray) : ByteArray := s.extract 4 (if byteN s 0 / 32 % 2 = 1 then partSize s - padN s else partSize s)
def partOf (s : ByteArray) : P3 := ((byteN s 0 % 32 : Nat), (byteN s 1 : Nat), partBody s)
end Go.Proofs.Ytgakmnholegbgaa.B
end
section
namespace Go.Proofs.Ytgakmnholegbgaa.B
open Go.RowKit Go.Proofs.YtgakmnholegbgaaW.PrintWords Go.Proofs.YtgakmnholegbgaaW.PrintLast Go.Proofs.YtgakmnholegbgaaW.PrintMore
set_option linter.unusedVariables false
set_option linter.unusedSimpArgs false
abbrev M3 := Bool × Int × Int
abbrev B3 := Int × Int × List M3
def metr (s : ByteArray) (a : Nat) : M3 := (decide (rdBits s a 1 = 1), (rdBits s (a + 1) 2 : Int), (rdBits s (a + 3) 13 : Int))
def metrOk (m : M3) : Bool := m.1 || (m.2.1 == 0 && m.2.2 == 0)
def metrs (s : ByteArray) (a n : Nat) : List M3 := (List.range n).map fun k => metr s (a + 16 * k)
theorem metrs_length (s : ByteArray) (a n : Nat) : (metrs s a n).length = n := by simp [metrs]
theorem metrs_succ (s : ByteArray) (a n : Nat) : metrs s a (n + 1) = metrs s a n ++ [metr s (a + 16 * n)] := by simp [metrs, List.range_succ]
theorem metrs_get (s : ByteArray) (a n k : Nat) (h : k < n) : (metrs s a n)[k]? = some (metr s (a + 16 * k)) := by simp [metrs, h]
def metV (l : List M3) : List Value := l.flatMap fun x => [.bool x.1, .int .i64 x.2.1, .int .i64 x.2.2]
theorem metV_length (l : List M3) : (metV l).length = l.length * 3 := by
 induction l with
 | nil => rfl
 | cons x l ih => simp only [metV, List.flatMap_cons, List.length_append, List.length_cons, List.length_nil] at ih ⊢; omega
theorem metV_snoc (l : List M3) (x : M3) : metV (l ++ [x]) = metV l ++ [.bool x.1, .int .i64 x.2.1, .int .i64 x.2.2] := by simp [metV]
theorem metV_append (l m : List M3) : metV (l ++ m) = metV l ++ metV m := by simp [metV]
theorem metV_get {l : List M3} {i : Nat} {x : M3} (h : l[i]? = some x) : (metV l)[i * 3]? = some (.bool x.1) ∧ (metV l)[i * 3 + 1]? = some (.int .i64 x.2.1) ∧ (metV l)[i * 3 + 2]? = some (.int .i64 x.2.2) := by
 obtain ⟨hi, rfl⟩ := List.getElem?_eq_some_iff.1 h
 have e : metV l = metV (l.take i) ++ ([.bool l[i].1, .int .i64 l[i].2.1, .int .i64 l[i].2.2] ++ metV (l.drop (i + 1))) := by
  conv => lhs; rw [← List.take_append_drop i l, List.drop_eq_getElem_cons hi]
  rw [metV_append]
  rfl
 have hl : (metV (l.take i)).length = i * 3 := by rw [metV_length, List.length_take, Nat.min_eq_left (Nat.le_of_lt hi)]
 refine ⟨?_, ?_, ?_⟩ <;> rw [e, List.getElem?_append_right (by omega), hl]
 ·rw [Nat.sub_self]; rfl
 ·rw [Nat.add_sub_cancel_left]; rfl
 ·rw [Nat.add_sub_cancel_left]; rfl
def blockErr (s : ByteArray) (a : Nat) : Int :=
 if 8 * s.size - a < 96 then 60 else if 4096 < rdBits s (a + 48) 16 then 3 else if 8 * s.size - (a + 64) < (rdBits s (a + 48) 16 + 1) / 2 * 32 + 32 then 60 else
  if ¬ (metrs s (a + 64) (rdBits s (a + 48) 16)).all metrOk = true then 70 else if rdBits s (a + 48) 16 % 2 = 1 ∧ rdBits s (a + 64 + 16 * rdBits s (a + 48) 16) 16 ≠ 0 then 91 else 0
def blockOf (s : ByteArray) (a : Nat) : B3 := (rdBits s a 32, rdBits s (a + 32) 16, metrs s (a + 64) (rdBits s (a + 48) 16))
def blockEnd (s : ByteArray) (a : Nat) : Nat := a + 64 + (rdBits s (a + 48) 16 + 1) / 2 * 32
theorem blockEnd_lt (s : ByteArray) (a : Nat) : a < blockEnd s a := by unfold blockEnd; omega
theorem blockEnd_le {s : ByteArray} {a : Nat} (ha : a ≤ 8 * s.size) (h : blockErr s a = 0) : blockEnd s a + 32 ≤ 8 * s.size := by
 unfold blockEnd
 unfold blockErr at h
 obtain ⟨n, hn⟩ : ∃ n, n = rdBits s (a + 48) 16 := ⟨_, rfl⟩
 rw [← hn] at h ⊢
 split at h
 ·cases h
 split at h
 ·cases h
 split at h
 ·cases h
 omega
theorem gb_alloc {a w : World} {row : Option Nat} (h : a.grownBy w row) (o : Obj) : a.grownBy (w.alloc o) row :=
 ⟨h.os, h.tape, h.output, Nat.le_trans h.size (by simp), fun i hi hne => (Below.heap_alloc w o i (Nat.lt_of_lt_of_le hi h.size)).trans (h.block i hi hne)⟩
theorem gb_set {a w : World} {row : Option Nat} (h : a.grownBy w row) {p : Addr} (hp : a.heap.size ≤ p.block) (u : Value) : a.grownBy (w.setCell p u) row :=
 ⟨h.os, h.tape, h.output, by simpa [World.setCell] using h.size, fun i hi hne => (Below.heap_setCell w p u i (by rintro rfl; omega)).trans (h.block i hi hne)⟩
theorem gb_row {a w w' : World} {row r2 : Option Nat} (h : a.grownBy w row) (k : w.grownBy w' r2) (hr : ∀ k, r2 = some k → a.heap.size ≤ k) : a.grownBy w' row :=
 ⟨k.os.trans h.os, k.tape.trans h.tape, k.output.trans h.output, Nat.le_trans h.size k.size, fun i hi hne => (k.block i (Nat.lt_of_lt_of_le hi h.size) (fun e => by have := hr i e.symm; omega)).trans (h.block i hi hne)⟩
theorem gb_drawn {a w w' : World} {row : Option Nat} (h : a.grownBy w row) (hd : Drawn0 w w') : a.grownBy w' row := by
 obtain ⟨n, rfl⟩ := hd
 exact only_drewN h n
theorem gb_drawn0 {w w' : World} (hd : Drawn0 w w') (row : Option Nat) : w.grownBy w' row := gb_drawn (World.grownBy.refl w row) hd
theorem below_drawn2 {w w1 w2 : World} (h : Below w.heap.size w w1) (hd : Drawn0 w1 w2) : Below w.heap.size w w2 := h.trans (hd.below.mono h.size)
theorem gb_below {w w1 w2 : World} {p : Nat} (hb : Below w.heap.size w w1) (hp : w.heap.size ≤ p) (hg : w1.grownBy w2 (some p)) : Below w.heap.size w w2 :=
 ⟨hg.os.trans hb.os, hg.tape.trans hb.tape, hg.output.trans hb.output, Nat.le_trans hb.size hg.size, fun k hk => (hg.block k (Nat.lt_of_lt_of_le hk hb.size) (fun e => by injection e with e; omega)).trans (hb.block k hk)⟩
theorem RowV.gb {w w' : World} {base : Nat} {e : TypeId} {sz : Nat} {v : Value} {n : Nat} {xs : List Value} {row : Option Nat} (h : RowV w base e sz v n xs) (g : w.grownBy w' row) (hne : ∀ k, row = some k → v.ownBlock ≠ some k) : RowV w' base e sz v n xs :=
 h.keep (fun k hk _ _ => g.block k (h.lt hk).1 (fun e => hne k e.symm hk))
theorem gb_blk {w w' : World} {row : Option Nat} {g : Nat} {o : Obj} (k : w.grownBy w' row) (h : w.heap[g]? = some o) (hne : ∀ k, row = some k → g ≠ k) : w'.heap[g]? = some o := by
 have hl : g < w.heap.size := by
  rcases Nat.lt_or_ge g w.heap.size with h' | h'
  ·exact h'
  ·rw [Array.getElem?_eq_none h'] at h; cases h
 exact (k.block g hl (fun e => hne g e.symm rfl)).trans h
theorem gb_blkR {w w' : World} {base : Nat} {e : TypeId} {sz : Nat} {v : Value} {n : Nat} {xs : List Value} {g : Nat} {cs : Array Value} {t : TypeId} {fr : Nat × Nat} (k : w.grownBy w' v.ownBlock) (hR : RowV w base e sz v n xs) (h : w.heap[g]? = some (.cells cs t fr)) (ht : t ≠ e) : w'.heap[g]? = some (.cells cs t fr) :=
 gb_blk k h (fun j hj e => hR.ne h ht (by rw [e]; exact hj))
theorem blockErr_70 {s : ByteArray} {a n k : Nat} (h1 : ¬ 8 * s.size - a < 96) (hn : rdBits s (a + 48) 16 = n) (h2 : ¬ 4096 < n) (h3 : ¬ 8 * s.size - (a + 64) < (n + 1) / 2 * 32 + 32) (hk : k < n) (hb : metrOk (metr s (a + 64 + 16 * k)) = false) : blockErr s a = 70 := by
 unfold blockErr
 rw [if_neg h1, hn, if_neg h2, if_neg h3, if_pos]
 intro h
 rw [List.all_eq_true] at h
 have := h _ (List.mem_of_getElem? (metrs_get s (a + 64) n k hk))
 rw [hb] at this
 cases this
theorem blockErr_end {s : ByteArray} {a n : Nat} (h1 : ¬ 8 * s.size - a < 96) (hn : rdBits s (a + 48) 16 = n) (h2 : ¬ 4096 < n) (h3 : ¬ 8 * s.size - (a + 64) < (n + 1) / 2 * 32 + 32) (hk : ∀ m ∈ metrs s (a + 64) n, metrOk m = true) : blockErr s a = if n % 2 = 1 ∧ rdBits s (a + 64 + 16 * n) 16 ≠ 0 then 91 else 0 := by
 unfold blockErr
 rw [if_neg h1, hn, if_neg h2, if_neg h3, if_neg (by rw [List.all_eq_true.2 hk]; simp)]
end Go.Proofs.Ytgakmnholegbgaa.B
end
section
namespace Go.Proofs.Ytgakmnholegbgaa.B
open Go.RowKit Go.Proofs.YtgakmnholegbgaaW.PrintWords Go.Proofs.YtgakmnholegbgaaW.PrintLast Go.Proofs.YtgakmnholegbgaaW.PrintMore
set_option linter.unusedVariables false
set_option linter.unusedSimpArgs false
def iV (l : List Int) : List Value := l.map (Value.int .i64)
theorem iV_length (l : List Int) : (iV l).length = l.length := by simp [iV]
theorem iV_snoc (l : List Int) (x : Int) : iV (l ++ [x]) = iV l ++ [.int .i64 x] := by simp [iV]
theorem iV_append (l m : List Int) : iV (l ++ m) = iV l ++ iV m := by simp [iV]
theorem iV_one (l : List Int) : ∀ u ∈ iV l, u.oneCell' = true := by
 intro u hu
 simp only [iV, List.mem_map] at hu
 obtain ⟨x, _, rfl⟩ := hu
 rfl
def chS (s : ByteArray) (a e i : Nat) : Nat := rdBits s (a + 2 + e * i) e
def chOk (s : ByteArray) (a e left k : Nat) : Bool := (List.range k).all fun i => decide (chS s a e i ≤ 2) && (decide (i < left) || chS s a e i == 0)
theorem chOk_succ (s : ByteArray) (a e left k : Nat) : chOk s a e left (k + 1) = (chOk s a e left k && (decide (chS s a e k ≤ 2) && (decide (k < left) || chS s a e k == 0))) := by simp [chOk, List.range_succ]
def chL (s : ByteArray) (a e n : Nat) : List Int := (List.range n).map fun i => (chS s a e i : Int)
theorem chL_length (s : ByteArray) (a e n : Nat) : (chL s a e n).length = n := by simp [chL]
theorem chL_succ (s : ByteArray) (a e n : Nat) : chL s a e (n + 1) = chL s a e n ++ [(chS s a e n : Int)] := by simp [chL, List.range_succ]
def chunkP (s : ByteArray) (a left : Nat) : List Int × Int :=
 if 8 * s.size - a < 16 then ([], 60) else
  if rdBits s a 1 = 0 then (if 2 < rdBits s (a + 1) 2 ∨ rdBits s (a + 3) 13 = 0 then ([], 100) else (List.replicate (min (rdBits s (a + 3) 13) left) (rdBits s (a + 1) 2 : Int), 0)) else
   if rdBits s (a + 1) 1 = 1 then (if chOk s a 2 left 7 = true then (chL s a 2 (min 7 left), 0) else ([], 100)) else (if chOk s a 1 left 14 = true then (chL s a 1 (min 14 left), 0) else ([], 100))
end Go.Proofs.Ytgakmnholegbgaa.B
end
section
namespace Go.Proofs.Ytgakmnholegbgaa.B
open Go.RowKit Go.Proofs.YtgakmnholegbgaaW.PrintWords Go.Proofs.YtgakmnholegbgaaW.PrintLast Go.Proofs.YtgakmnholegbgaaW.PrintMore
set_option linter.unusedVariables false
set_option linter.unusedSimpArgs false
theorem read_any (w : World) (s : ByteArray) : Calls Try.prog 57 #[.string s] w fun e w' => e = .returned (.pointer (some ⟨w.heap.size, 0, none⟩)) ∧ w' = w.alloc (.cells #[.string s, .int .i64 0, .bool false] 146) := by
 go_enter Try.func57, Try.ntmps57
 go_wp2
 go_ret
 exact ⟨rfl, rfl⟩
theorem left_any (w : World) (p : Nat) (s : ByteArray) (a : Int) (h : RdIs w p 146 s a false) (hs : s.size ≤ 1000000000000) (ha0 : 0 ≤ a) (ha1 : a ≤ 8 * s.size) :
  Calls Try.prog 60 #[.pointer (some ⟨p, 0, none⟩)] w fun e w' => e = .returned (.int .i64 (8 * (s.size : Int) - a)) ∧ Drawn0 w w' := by
 have h0 := blk_cell h 0
 have h1 := blk_cell h 1
 have h2 := blk_cell h 2
 simp only [List.getElem?_toArray, List.getElem?_cons_zero, List.getElem?_cons_succ] at h0 h1 h2
 clear h
 go_enter Try.func60, Try.ntmps60
 go_wp2
 go_region
 all_goals go_wp2
 all_goals go_ret
 all_goals exact ⟨rfl, ⟨1, rfl⟩⟩
theorem R_of_own {w : World} {base e : Nat} {v : Value} {xs : List Int} (h : w.ownsRow base e 1 v xs.length (nums .i64 xs)) : Kd.R (Kd.int .i64) e w base (fun _ => True) v xs := by
 refine ⟨fun _ _ => trivial, nums .i64 xs, h, ?_⟩
 refine ⟨by show _ = xs.length * 1; simp [nums], fun j p hj => ?_⟩
 show ((nums .i64 xs).drop (j * 1)).take 1 = [Value.int .i64 p]
 rw [Nat.mul_one]
 have hlt : j < xs.length := (List.getElem?_eq_some_iff.1 hj).1
 rw [List.drop_eq_getElem_cons (by simpa [nums] using hlt)]
 simp [nums, (List.getElem?_eq_some_iff.1 hj).2]
section
variable {P : Program} {ops : Array Oper} {o : Oper} {a : Act} {K : Act → World → Prop} {Q : Exit → Act → World → Prop}
theorem step_append_num {w0 W : World} (base : Nat) (hw : Region.wanted o (yielded ops a.tmps) = true) (s x : Operand) (t e : TypeId) (k : IntKind) (bytes : Nat)
  (ho : o.op = .call { callee := .builtin .append, args := #[s, x], argTypes := #[t, t] })
  (ht : P.underlying t = some (.slice e)) (hinfo : (P.info? e).map (fun i => (i.zero, i.size, i.bytes)) = some (some (.int k 0), 1, bytes)) (hb0 : 0 < bytes)
  (v : Value) (xs : List Int) (y : Int) (hs : a.eval s = v) (hx : a.eval x = .slice (some ⟨W.heap.size, 0, none⟩) 1 1)
  (HO : W.ownsRow base e 1 v xs.length (nums k xs)) (HB : Below base w0 W) (hbase : base ≤ W.heap.size) (hl : (xs.length + 1) * bytes ≤ 140737488355328)
  (h : ∀ v1 w1, w1.ownsRow base e 1 v1 (xs ++ [y]).length (nums k (xs ++ [y])) → Below base w0 w1 → W.grownBy w1 v.ownBlock → (v1.ownBlock = v.ownBlock ∨ ∃ b, v1.ownBlock = some b ∧ W.heap.size ≤ b) → K (a.put o.dst v1) w1) :
  if Region.wanted o (yielded ops a.tmps) = true then Oper.wp P o a (W.alloc (.cells #[.int k y] e)) K Q else K (a.put o.dst undef) (W.alloc (.cells #[.int k y] e)) :=
 step_append_cells base hw s x t e (.int k 0) 1 bytes ho ht hinfo rfl (by omega) hb0 v xs.length (nums k xs) [.int k y] hs hx rfl (by simp [Value.oneCell']) HO HB hbase hl
  fun v1 w1 hown hB hg hat => h v1 w1 (by simpa [nums] using hown) hB hg hat
end
theorem get_int (w : World) (p : Nat) (s : ByteArray) (a n : Int) (h : RdIs w p 146 s a false) (hs : s.size ≤ 1000000000000) (ha : 0 ≤ a) (hn0 : 0 ≤ n) (hn : n ≤ 32) (hl : a + n ≤ 8 * s.size) :
  Calls Try.prog 58 #[.pointer (some ⟨p, 0, none⟩), .int .i64 n] w fun e w' => e = .returned (.int .u32 (rdBits s a.toNat n.toNat : Int)) ∧ RdIs w' p 146 s (a + n) false ∧ w.grownBy w' (some p) := by
 obtain ⟨a, rfl⟩ : ∃ m : Nat, a = m := ⟨a.toNat, by omega⟩
 obtain ⟨n, rfl⟩ : ∃ m : Nat, n = m := ⟨n.toNat, by omega⟩
 exact get_good w p s a n h hs (by omega) (by omega) (by omega)
theorem blk_set3 {w : World} {b t : Nat} {x0 x1 x2 : Value} (y0 y1 y2 : Value) (h : w.heap[b]? = some (.cells #[x0, x1, x2] t (0, 0))) :
  (((w.setCell ⟨b, 0, none⟩ y0).setCell ⟨b, 1, none⟩ y1).setCell ⟨b, 2, none⟩ y2).heap[b]? = some (.cells #[y0, y1, y2] t (0, 0)) := by
 have h1 := blk_set h 0 y0
 have h2 := blk_set h1 1 y1
 have h3 := blk_set h2 2 y2
 refine h3.trans ?_
 simp
theorem own_set3 {w : World} {b base e size n : Nat} {v : Value} {xs : List Value} (y0 y1 y2 : Value) (h : w.ownsRow base e size v n xs) (hb : b < base) :
  (((w.setCell ⟨b, 0, none⟩ y0).setCell ⟨b, 1, none⟩ y1).setCell ⟨b, 2, none⟩ y2).ownsRow base e size v n xs := by
 have hne : some b ≠ v.ownBlock := fun e => by have := own_base h b e.symm; omega
 exact own_setCell (own_setCell (own_setCell h (p := ⟨b, 0, none⟩) hne y0) (p := ⟨b, 1, none⟩) hne y1) (p := ⟨b, 2, none⟩) hne y2
theorem below_set3 {w w1 : World} {b : Nat} (y0 y1 y2 : Value) (h : Below b w w1) :
  Below b w (((w1.setCell ⟨b, 0, none⟩ y0).setCell ⟨b, 1, none⟩ y1).setCell ⟨b, 2, none⟩ y2) :=
 ((h.setCell (p := ⟨b, 0, none⟩) (Nat.le_refl b) _).setCell (p := ⟨b, 1, none⟩) (Nat.le_refl b) _).setCell (p := ⟨b, 2, none⟩) (Nat.le_refl b) _
end Go.Proofs.Ytgakmnholegbgaa.B
end
section
namespace Go.Proofs.Ytgakmnholegbgaa.B
open Go.RowKit Go.Proofs.YtgakmnholegbgaaW.PrintWords Go.Proofs.YtgakmnholegbgaaW.PrintLast Go.Proofs.YtgakmnholegbgaaW.PrintMore
set_option linter.unusedVariables false
set_option linter.unusedSimpArgs false
def signedP (v n : Nat) : Int := if v < 2 ^ (n - 1) then (v : Int) else (v : Int) - 2 ^ n
theorem signed24 (v : Nat) (w : World) (h : v < 16777216) : Calls Try.prog 62 #[.int .u32 (v : Int), .int .i64 24] w fun e w' => e = .returned (.int .i64 (signedP v 24)) ∧ w' = w := by
 obtain ⟨R, hR⟩ : ∃ R, R = signedP v 24 := ⟨_, rfl⟩
 rw [← hR]
 have HR := Aside0.mk hR
 clear hR
 go_enter Try.func62, Try.ntmps62
 go_wp2_with fail
 go_ret
 have e : wrap64 (wrap32 ((v : Int) * 256) / 256) = R := by
  rw [HR.out]
  unfold signedP wrap64 wrap32
  split <;> omega
 exact ⟨by rw [← e]; rfl, rfl⟩
theorem signed16 (v : Nat) (w : World) (h : v < 65536) : Calls Try.prog 62 #[.int .u32 (v : Int), .int .i64 16] w fun e w' => e = .returned (.int .i64 (signedP v 16)) ∧ w' = w := by
 obtain ⟨R, hR⟩ : ∃ R, R = signedP v 16 := ⟨_, rfl⟩
 rw [← hR]
 have HR := Aside0.mk hR
 clear hR
 go_enter Try.func62, Try.ntmps62
 go_wp2_with fail
 go_ret
 have e : wrap64 (wrap32 ((v : Int) * 65536) / 65536) = R := by
  rw [HR.out]
  unfold signedP wrap64 wrap32
  split <;> omega
 exact ⟨by rw [← e]; rfl, rfl⟩
theorem signed_range (v n : Nat) (h : v < 2 ^ n) (hn : n = 24 ∨ n = 16) : -16777216 ≤ signedP v n ∧ signedP v n ≤ 16777216 := by
 unfold signedP
 rcases hn with rfl | rfl <;> split <;> omega
end Go.Proofs.Ytgakmnholegbgaa.B
end
section
namespace Go.Proofs.Ytgakmnholegbgaa.B
open Go.RowKit Go.Proofs.YtgakmnholegbgaaW.PrintWords Go.Proofs.YtgakmnholegbgaaW.PrintLast Go.Proofs.YtgakmnholegbgaaW.PrintMore
set_option linter.unusedVariables false
set_option linter.unusedSimpArgs false
def blksR (s : ByteArray) (a m : Nat) : Except Int (List B3 × Nat) :=
 if _h : 8 * s.size - a ≤ 32 then .ok ([], a) else if m = 16 then .error 3 else if blockErr s a ≠ 0 then .error (blockErr s a) else (blksR s (blockEnd s a) (m + 1)).map fun x => (blockOf s a :: x.1, x.2)
termination_by 8 * s.size - a
decreasing_by
 have := blockEnd_lt s a
 omega
theorem blksR_end {s : ByteArray} {a m : Nat} (h : 8 * s.size - a ≤ 32) : blksR s a m = .ok ([], a) := by rw [blksR, dif_pos h]
theorem blksR_many {s : ByteArray} {a : Nat} (h : ¬ 8 * s.size - a ≤ 32) : blksR s a 16 = .error 3 := by rw [blksR, dif_neg h, if_pos rfl]
theorem blksR_bad {s : ByteArray} {a m : Nat} (h : ¬ 8 * s.size - a ≤ 32) (hm : m ≠ 16) (he : blockErr s a ≠ 0) : blksR s a m = .error (blockErr s a) := by rw [blksR, dif_neg h, if_neg hm, if_pos he]
theorem blksR_go {s : ByteArray} {a m : Nat} (h : ¬ 8 * s.size - a ≤ 32) (hm : m ≠ 16) (he : blockErr s a = 0) : blksR s a m = (blksR s (blockEnd s a) (m + 1)).map fun x => (blockOf s a :: x.1, x.2) := by rw [blksR, dif_neg h, if_neg hm, if_neg (by simp [he])]
abbrev C3 := Int × List B3 × Int
def ccfbP (s : ByteArray) : C3 × Int := if 65536 < s.size then ((0, [], 0), 2) else if s.size % 4 ≠ 0 then ((0, [], 0), 90) else if s.size < 8 then ((0, [], 0), 60) else match blksR s 32 0 with
 | .ok (l, a) => ((((rdBits s 0 32 : Nat) : Int), l, ((rdBits s a 32 : Nat) : Int)), 0)
 | .error e => ((0, [], 0), e)
theorem ccfbP_ok {s : ByteArray} {l : List B3} {a : Nat} (h1 : s.size ≤ 65536) (h2 : s.size % 4 = 0) (h3 : 8 ≤ s.size) (h : blksR s 32 0 = .ok (l, a)) : ccfbP s = ((((rdBits s 0 32 : Nat) : Int), l, ((rdBits s a 32 : Nat) : Int)), 0) := by
 unfold ccfbP
 rw [if_neg (by omega), if_neg (by omega), if_neg (by omega), h]
theorem ccfbP_bad {s : ByteArray} {e : Int} (h1 : s.size ≤ 65536) (h2 : s.size % 4 = 0) (h3 : 8 ≤ s.size) (h : blksR s 32 0 = .error e) : ccfbP s = ((0, [], 0), e) := by
 unfold ccfbP
 rw [if_neg (by omega), if_neg (by omega), if_neg (by omega), h]
def BehindB (s : ByteArray) (l : List B3) (a : Nat) : Prop := blksR s 32 0 = (blksR s a l.length).map fun x => (l ++ x.1, x.2)
theorem BehindB.start (s : ByteArray) : BehindB s [] 32 := by
 unfold BehindB
 show blksR s 32 0 = _
 cases blksR s 32 0 <;> rfl
theorem BehindB.next {s : ByteArray} {l : List B3} {a : Nat} (h : BehindB s l a) (h1 : ¬ 8 * s.size - a ≤ 32) (hm : l.length ≠ 16) (he : blockErr s a = 0) : BehindB s (l ++ [blockOf s a]) (blockEnd s a) := by
 unfold BehindB at h ⊢
 rw [h, blksR_go h1 hm he, List.length_append]
 show _ = (blksR s (blockEnd s a) (l.length + 1)).map _
 cases blksR s (blockEnd s a) (l.length + 1) with
 | error e => rfl
 | ok x => show Except.ok _ = Except.ok _; simp
theorem BehindB.many {s : ByteArray} {l : List B3} {a : Nat} (h : BehindB s l a) (h1 : ¬ 8 * s.size - a ≤ 32) (hm : l.length = 16) : blksR s 32 0 = .error 3 := by
 unfold BehindB at h
 rw [h, hm, blksR_many h1]
 rfl
theorem BehindB.bad {s : ByteArray} {l : List B3} {a : Nat} (h : BehindB s l a) (h1 : ¬ 8 * s.size - a ≤ 32) (hm : l.length ≠ 16) (he : blockErr s a ≠ 0) : blksR s 32 0 = .error (blockErr s a) := by
 unfold BehindB at h
 rw [h, blksR_bad h1 hm he]
 rfl
theorem BehindB.done {s : ByteArray} {l : List B3} {a : Nat} (h : BehindB s l a) (h1 : 8 * s.size - a ≤ 32) : blksR s 32 0 = .ok (l, a) := by
 unfold BehindB at h
 rw [h, blksR_end h1]
 show Except.ok _ = Except.ok _
 simp
def blkV (L : List (B3 × Value)) : List Value := L.flatMap fun x => [.int .u32 x.1.1, .int .i64 x.1.2.1, x.2]
theorem blkV_length (L : List (B3 × Value)) : (blkV L).length = L.length * 3 := by
 induction L with
 | nil => rfl
 | cons x l ih => simp only [blkV, List.flatMap_cons, List.length_append, List.length_cons, List.length_nil] at ih ⊢; omega
theorem blkV_snoc (L : List (B3 × Value)) (x : B3 × Value) : blkV (L ++ [x]) = blkV L ++ [.int .u32 x.1.1, .int .i64 x.1.2.1, x.2] := by simp [blkV]
theorem blkV_append (l m : List (B3 × Value)) : blkV (l ++ m) = blkV l ++ blkV m := by simp [blkV]
theorem blkV_get {l : List (B3 × Value)} {i : Nat} {x : B3 × Value} (h : l[i]? = some x) : (blkV l)[i * 3]? = some (.int .u32 x.1.1) ∧ (blkV l)[i * 3 + 1]? = some (.int .i64 x.1.2.1) ∧ (blkV l)[i * 3 + 2]? = some x.2 := by
 obtain ⟨hi, rfl⟩ := List.getElem?_eq_some_iff.1 h
 have e : blkV l = blkV (l.take i) ++ ([.int .u32 l[i].1.1, .int .i64 l[i].1.2.1, l[i].2] ++ blkV (l.drop (i + 1))) := by
  conv => lhs; rw [← List.take_append_drop i l, List.drop_eq_getElem_cons hi]
  rw [blkV_append]
  rfl
 have hl : (blkV (l.take i)).length = i * 3 := by rw [blkV_length, List.length_take, Nat.min_eq_left (Nat.le_of_lt hi)]
 refine ⟨?_, ?_, ?_⟩ <;> rw [e, List.getElem?_append_right (by omega), hl]
 ·rw [Nat.sub_self]; rfl
 ·rw [Nat.add_sub_cancel_left]; rfl
 ·rw [Nat.add_sub_cancel_left]; rfl
def BlocksV (w : World) (base : Nat) (v : Value) (L : List (B3 × Value)) : Prop := RowV w base 49 3 v L.length (blkV L) ∧ ∀ x ∈ L, RowV w base 45 3 x.2 x.1.2.2.length (metV x.1.2.2)
theorem BlocksV.nil (w : World) (base : Nat) : BlocksV w base (.slice none 0 0) [] := ⟨RowV.nil _ _ _ _, fun x hx => by simp at hx⟩
theorem BlocksV.keep {w w' : World} {base : Nat} {v : Value} {L : List (B3 × Value)} (h : BlocksV w base v L) (hk : ∀ k t, (w.shape? k).map (·.1) = some t → t = 49 ∨ t = 45 → w'.heap[k]? = w.heap[k]?) : BlocksV w' base v L :=
 ⟨h.1.keep (fun k _ _ hs => hk k _ hs (.inl rfl)), fun x hx => (h.2 x hx).keep (fun k _ _ hs => hk k _ hs (.inr rfl))⟩
theorem shape_lt {w : World} {k t : Nat} (h : (w.shape? k).map (·.1) = some t) : k < w.heap.size := by
 rcases Nat.lt_or_ge k w.heap.size with hlt | hge
 ·exact hlt
 ·simp [World.shape?, Array.getElem?_eq_none hge] at h
theorem shape_blk {w : World} {g : Nat} {cs : Array Value} {t : TypeId} {fr : Nat × Nat} (h : w.heap[g]? = some (.cells cs t fr)) : (w.shape? g).map (·.1) = some t := by simp [World.shape?, h]
theorem BlocksV.gb {w w' : World} {base : Nat} {v : Value} {L : List (B3 × Value)} {row : Option Nat} (h : BlocksV w base v L) (g : w.grownBy w' row) (hne : ∀ k, row = some k → ∃ t, (w.shape? k).map (·.1) = some t ∧ t ≠ 49 ∧ t ≠ 45) : BlocksV w' base v L :=
 h.keep (fun k t hs ht => g.block k (shape_lt hs) (fun e => by
  obtain ⟨t', h1, h2, h3⟩ := hne k e.symm
  rw [hs] at h1
  injection h1 with h1
  subst h1
  rcases ht with h | h
  ·exact h2 h
  ·exact h3 h))
theorem BlocksV.alloc {w : World} {base : Nat} {v : Value} {L : List (B3 × Value)} (h : BlocksV w base v L) (o : Obj) : BlocksV (w.alloc o) base v L := h.gb (World.grownBy_alloc w o none) (fun k hk => by cases hk)
theorem BlocksV.setCell {w : World} {base : Nat} {v : Value} {L : List (B3 × Value)} (h : BlocksV w base v L) {p : Addr} (u : Value) {cs : Array Value} {t : TypeId} {fr : Nat × Nat} (hp : w.heap[p.block]? = some (.cells cs t fr)) (h1 : t ≠ 49) (h2 : t ≠ 45) : BlocksV (w.setCell p u) base v L :=
 h.keep (fun k t' hs ht => Below.heap_setCell w p u k (fun e => by
  subst e
  rw [shape_blk hp] at hs
  injection hs with hs
  subst hs
  rcases ht with h | h
  ·exact h1 h
  ·exact h2 h))
theorem BlocksV.below {w w' : World} {base : Nat} {v : Value} {L : List (B3 × Value)} (h : BlocksV w base v L) (hb : Below w.heap.size w w') : BlocksV w' base v L := h.keep (fun k t hs _ => hb.block k (shape_lt hs))
theorem BlocksV.low {w : World} {base b2 : Nat} {v : Value} {L : List (B3 × Value)} (h : BlocksV w base v L) (hb : b2 ≤ base) : BlocksV w b2 v L := ⟨h.1.low hb, fun x hx => (h.2 x hx).low hb⟩
theorem BlocksV.push {w w' : World} {base : Nat} {v v' vm : Value} {L : List (B3 × Value)} {b : B3} (h : BlocksV w base v L) (hm : RowV w base 45 3 vm b.2.2.length (metV b.2.2)) (g : w.grownBy w' v.ownBlock) (hr : RowV w' base 49 3 v' (L.length + 1) (blkV L ++ [.int .u32 b.1, .int .i64 b.2.1, vm])) : BlocksV w' base v' (L ++ [(b, vm)]) := by
 have hk : ∀ (x : Value) (n : Nat) (xs : List Value), RowV w base 45 3 x n xs → RowV w' base 45 3 x n xs := fun x n xs hx => hx.keep (fun k hk _ hs => g.block k (hx.lt hk).1 (fun e => by
  have := (h.1.lt e.symm).2.2
  rw [hs] at this
  injection this with this
  exact absurd this (by decide)))
 refine ⟨?_, fun x hx => ?_⟩
 ·rw [blkV_snoc, List.length_append]
  exact hr
 ·rcases List.mem_append.1 hx with hx | hx
  ·exact hk _ _ _ (h.2 x hx)
  ·rw [List.mem_singleton.1 hx]
   exact hk _ _ _ hm
end Go.Proofs.Ytgakmnholegbgaa.B
end
section
namespace Go.Proofs.Ytgakmnholegbgaa.B
open Go.RowKit Go.Proofs.YtgakmnholegbgaaW.PrintWords Go.Proofs.YtgakmnholegbgaaW.PrintLast Go.Proofs.YtgakmnholegbgaaW.PrintMore
set_option linter.unusedVariables false
set_option linter.unusedSimpArgs false
theorem chunkP_room {s : ByteArray} {a left : Nat} (h : (chunkP s a left).2 = 0) : a + 16 ≤ 8 * s.size := by
 unfold chunkP at h
 split at h
 ·cases h
 ·omega
theorem chunkP_len {s : ByteArray} {a left : Nat} : (chunkP s a left).1.length ≤ left := by
 unfold chunkP
 repeat' split
 all_goals first | (simp only [List.length_nil]; omega) | (simp only [List.length_replicate]; omega) | (simp only [chL_length]; omega)
theorem chunkP_pos {s : ByteArray} {a left : Nat} (h : (chunkP s a left).2 = 0) (hl : left ≠ 0) : 0 < (chunkP s a left).1.length := by
 unfold chunkP at h ⊢
 split at h
 ·cases h
 rename_i h1
 rw [if_neg h1]
 split at h
 ·rename_i h2
  rw [if_pos h2]
  split at h
  ·cases h
  ·rename_i h3
   rw [if_neg h3]
   simp only [List.length_replicate]
   omega
 ·rename_i h2
  rw [if_neg h2]
  split at h
  ·rename_i h3
   rw [if_pos h3]
   split at h
   ·rename_i h4
    rw [if_pos h4]
    simp only [chL_length]
    omega
   ·cases h
  ·rename_i h3
   rw [if_neg h3]
   split at h
   ·rename_i h4
    rw [if_pos h4]
    simp only [chL_length]
    omega
   ·cases h
def statsR (s : ByteArray) (a left : Nat) : Except Int (List Int × Nat) :=
 if left = 0 then .ok ([], a) else if h : (chunkP s a left).2 = 0 then (statsR s (a + 16) (left - (chunkP s a left).1.length)).map fun x => ((chunkP s a left).1 ++ x.1, x.2) else .error (chunkP s a left).2
termination_by 8 * s.size - a
decreasing_by
 have := chunkP_room h
 omega
theorem statsR_end (s : ByteArray) (a : Nat) : statsR s a 0 = .ok ([], a) := by rw [statsR, if_pos rfl]
theorem statsR_bad {s : ByteArray} {a left : Nat} (hl : left ≠ 0) (he : (chunkP s a left).2 ≠ 0) : statsR s a left = .error (chunkP s a left).2 := by rw [statsR, if_neg hl, dif_neg he]
theorem statsR_go {s : ByteArray} {a left : Nat} (hl : left ≠ 0) (he : (chunkP s a left).2 = 0) : statsR s a left = (statsR s (a + 16) (left - (chunkP s a left).1.length)).map fun x => ((chunkP s a left).1 ++ x.1, x.2) := by rw [statsR, if_neg hl, dif_pos he]
def BehindS (s : ByteArray) (n : Nat) (l : List Int) (a : Nat) : Prop := statsR s 128 n = (statsR s a (n - l.length)).map fun x => (l ++ x.1, x.2)
theorem BehindS.start (s : ByteArray) (n : Nat) : BehindS s n [] 128 := by
 unfold BehindS
 show statsR s 128 n = (statsR s 128 n).map _
 cases statsR s 128 n <;> rfl
theorem BehindS.next {s : ByteArray} {n a : Nat} {l : List Int} (h : BehindS s n l a) (hl : n - l.length ≠ 0) (he : (chunkP s a (n - l.length)).2 = 0) : BehindS s n (l ++ (chunkP s a (n - l.length)).1) (a + 16) := by
 unfold BehindS at h ⊢
 rw [h, statsR_go hl he, List.length_append, ← Nat.sub_sub]
 cases statsR s (a + 16) (n - l.length - (chunkP s a (n - l.length)).1.length) with
 | error e => rfl
 | ok x => show Except.ok _ = Except.ok _; simp
theorem BehindS.bad {s : ByteArray} {n a : Nat} {l : List Int} (h : BehindS s n l a) (hl : n - l.length ≠ 0) (he : (chunkP s a (n - l.length)).2 ≠ 0) : statsR s 128 n = .error (chunkP s a (n - l.length)).2 := by
 unfold BehindS at h
 rw [h, statsR_bad hl he]
 rfl
theorem BehindS.done {s : ByteArray} {n a : Nat} {l : List Int} (h : BehindS s n l a) (hl : n - l.length = 0) : statsR s 128 n = .ok (l, a) := by
 unfold BehindS at h
 rw [h, hl, statsR_end]
 show Except.ok _ = Except.ok _
 simp
def deltasR (s : ByteArray) : Nat → List Int → Option (List Int × Nat)
 | a, [] => some ([], a)
 | a, x :: l => if x = 1 then (if a + 8 ≤ 8 * s.size then (deltasR s (a + 8) l).map fun y => ((rdBits s a 8 : Int) :: y.1, y.2) else none) else
   if x = 2 then (if a + 16 ≤ 8 * s.size then (deltasR s (a + 16) l).map fun y => (signedP (rdBits s a 16) 16 :: y.1, y.2) else none) else deltasR s a l
structure T3 where
 sender : Int
 media : Int
 first : Int
 base : Int
 count : Int
 status : List Int
 deltas : List Int
def zeroT : T3 := ⟨0, 0, 0, 0, 0, [], []⟩
def twccP (s : ByteArray) : T3 × Int :=
 if 65536 < s.size then (zeroT, 2) else if s.size % 4 ≠ 0 then (zeroT, 90) else if s.size < 16 then (zeroT, 60) else
  if rdBits s 80 16 = 0 then (zeroT, 90) else if 4096 < rdBits s 80 16 then (zeroT, 3) else
   match statsR s 128 (rdBits s 80 16) with
   | .error e => (zeroT, e)
   | .ok (l, a) =>
    match deltasR s a l with
    | none => (zeroT, 60)
    | some (d, b) => if 24 < 8 * s.size - b ∨ rdBits s b (8 * s.size - b) ≠ 0 then (zeroT, 91) else
      (⟨(rdBits s 0 32 : Nat), (rdBits s 32 32 : Nat), (rdBits s 64 16 : Nat), signedP (rdBits s 96 24) 24, (rdBits s 120 8 : Nat), l, d⟩, 0)
def BehindD (s : ByteArray) (a : Nat) (l : List Int) (k : Nat) (d : List Int) (b : Nat) : Prop := deltasR s a l = (deltasR s b (l.drop k)).map fun y => (d ++ y.1, y.2)
theorem BehindD.start (s : ByteArray) (a : Nat) (l : List Int) : BehindD s a l 0 [] a := by
 unfold BehindD
 rw [List.drop_zero]
 cases deltasR s a l <;> rfl
theorem BehindD.done {s : ByteArray} {a : Nat} {l : List Int} {d : List Int} {b : Nat} (h : BehindD s a l l.length d b) : deltasR s a l = some (d, b) := by
 unfold BehindD at h
 rw [h, List.drop_length]
 show some _ = some _
 simp
theorem BehindD.none_ {s : ByteArray} {a : Nat} {l : List Int} {k : Nat} {d : List Int} {b : Nat} {x : Int} (h : BehindD s a l k d b) (hx : l[k]? = some x) : deltasR s a l = (deltasR s b (x :: l.drop (k + 1))).map fun y => (d ++ y.1, y.2) := by
 unfold BehindD at h
 obtain ⟨hk, rfl⟩ := List.getElem?_eq_some_iff.1 hx
 rw [h, List.drop_eq_getElem_cons hk]
theorem BehindD.skip {s : ByteArray} {a : Nat} {l : List Int} {k : Nat} {d : List Int} {b : Nat} {x : Int} (h : BehindD s a l k d b) (hx : l[k]? = some x) (h1 : x ≠ 1) (h2 : x ≠ 2) : BehindD s a l (k + 1) d b := by
 have e := h.none_ hx
 unfold BehindD
 rw [e, deltasR, if_neg h1, if_neg h2]
theorem BehindD.one {s : ByteArray} {a : Nat} {l : List Int} {k : Nat} {d : List Int} {b : Nat} (h : BehindD s a l k d b) (hx : l[k]? = some 1) (hr : b + 8 ≤ 8 * s.size) : BehindD s a l (k + 1) (d ++ [(rdBits s b 8 : Int)]) (b + 8) := by
 have e := h.none_ hx
 unfold BehindD
 rw [e, deltasR, if_pos rfl, if_pos hr]
 cases deltasR s (b + 8) (l.drop (k + 1)) with
 | none => rfl
 | some y => show some _ = some _; simp
theorem BehindD.two {s : ByteArray} {a : Nat} {l : List Int} {k : Nat} {d : List Int} {b : Nat} (h : BehindD s a l k d b) (hx : l[k]? = some 2) (hr : b + 16 ≤ 8 * s.size) : BehindD s a l (k + 1) (d ++ [signedP (rdBits s b 16) 16]) (b + 16) := by
 have e := h.none_ hx
 unfold BehindD
 rw [e, deltasR, if_neg (by decide), if_pos rfl, if_pos hr]
 cases deltasR s (b + 16) (l.drop (k + 1)) with
 | none => rfl
 | some y => show some _ = some _; simp
theorem BehindD.over1 {s : ByteArray} {a : Nat} {l : List Int} {k : Nat} {d : List Int} {b : Nat} (h : BehindD s a l k d b) (hx : l[k]? = some 1) (hr : ¬ b + 8 ≤ 8 * s.size) : deltasR s a l = none := by
 rw [h.none_ hx, deltasR, if_pos rfl, if_neg hr]
 rfl
theorem BehindD.over2 {s : ByteArray} {a : Nat} {l : List Int} {k : Nat} {d : List Int} {b : Nat} (h : BehindD s a l k d b) (hx : l[k]? = some 2) (hr : ¬ b + 16 ≤ 8 * s.size) : deltasR s a l = none := by
 rw [h.none_ hx, deltasR, if_neg (by decide), if_pos rfl, if_neg hr]
 rfl
end Go.Proofs.Ytgakmnholegbgaa.B
end
section
namespace Go.Proofs.Ytgakmnholegbgaa.B
open Go.RowKit Go.Proofs.YtgakmnholegbgaaW.PrintWords Go.Proofs.YtgakmnholegbgaaW.PrintLast Go.Proofs.YtgakmnholegbgaaW.PrintMore
set_option linter.unusedVariables false
set_option linter.unusedSimpArgs false
def ChPost (s : ByteArray) (a left p : Nat) (w : World) (e : Ending) (w' : World) : Prop := ∃ v, e = .returned (.tuple #[v, .int .i64 (chunkP s a left).2]) ∧ w.grownBy w' (some p) ∧
 ((chunkP s a left).2 = 0 → RowV w' w.heap.size 3 1 v (chunkP s a left).1.length (iV (chunkP s a left).1) ∧ RdIs w' p 146 s ((a + 16 : Nat) : Int) false) ∧ ((chunkP s a left).2 ≠ 0 → v = .slice none 0 0)
def ChRel (s : ByteArray) (a p left e m : Nat) (w : World) (v6 v11 v47 : Value) (wr : World) : Prop := ∃ k : Nat, v47 = .int .i64 k ∧ v11 = .bool (chOk s a e left k) ∧ k ≤ m ∧
 Aside0 (RowV wr w.heap.size 3 1 v6 (min k left) (iV (chL s a e (min k left)))) ∧ Aside0 (RdIs wr p 146 s ((a + 2 + e * k : Nat) : Int) false) ∧ Aside0 (w.grownBy wr (some p))
def ChRun (a p mn : Nat) (x : Int) (s : ByteArray) (w : World) (v6 v35 : Value) (wr : World) : Prop := ∃ k : Nat, v35 = .int .i64 k ∧ k ≤ mn ∧ Aside0 (RowV wr w.heap.size 3 1 v6 k (iV (List.replicate k x))) ∧ Aside0 (RdIs wr p 146 s ((a + 16 : Nat) : Int) false) ∧ Aside0 (w.grownBy wr (some p))
set_option maxHeartbeats 16000000 in
set_option maxRecDepth 100000 in
theorem chunk_any (w : World) (p : Nat) (s : ByteArray) (a left : Nat) (hRD : RdIs w p 146 s (a : Int) false) (hs : s.size ≤ 65536) (ha : a ≤ 8 * s.size) (hl : left ≤ 4096) : Calls Try.prog 63 #[.pointer (some ⟨p, 0, none⟩), .int .i64 (left : Int)] w (ChPost s a left p w) := by
 have RD := Aside0.mk hRD
 have hpl := blk_lt hRD
 have HG := Aside0.mk (World.grownBy.refl w (some p))
 clear hRD
 go_enter Try.func63, Try.ntmps63
 go_wp2_with fail
 refine (left_any w p s (a : Int) RD.out (by omega) (by omega) (by omega)).mono ?_
 rintro e w1 ⟨rfl, hd⟩
 replace RD := Aside0.mk (gb_blk (gb_drawn0 hd none) RD.out (fun k hk => by cases hk))
 replace HG := Aside0.mk (gb_drawn HG.out hd)
 clear hd
 by_cases z1 : 8 * s.size - a < 16
 ·have q1 : decide (8 * (s.size : Int) - (a : Int) < 16) = true := decide_eq_true (by omega)
  have HP := Aside0.mk (show chunkP s a left = ([], 60) by unfold chunkP; rw [if_pos z1])
  go_wp2_with fail
  go_ret2
  exact ⟨_, by rw [HP.out]; rfl, HG.out, fun h => absurd h (by rw [HP.out]; decide), fun _ => rfl⟩
 have q1 : decide (8 * (s.size : Int) - (a : Int) < 16) = false := decide_eq_false (by omega)
 go_wp2_with fail
 refine (get_good w1 p s (a) 1 RD.out (by omega) (by omega) (by omega) (by omega)).mono ?_
 rintro e w2 ⟨rfl, hr_, hg_⟩
 replace RD : Aside0 (RdIs w2 p 146 s ((a + 1 : Nat) : Int) false) := ⟨by rw [show ((a + 1 : Nat) : Int) = ((a : Nat) : Int) + ((1 : Nat) : Int) by omega]; exact hr_⟩
 replace HG := Aside0.mk (only_trans HG.out hg_)
 clear hg_ hr_
 obtain ⟨T, hT⟩ : ∃ V, V = rdBits s (a) 1 := ⟨_, rfl⟩
 have lT : T < 2 ^ 1 := by rw [hT]; exact rdBits_lt _ _ _
 rw [← hT]
 have HT := Aside0.mk hT
 clear hT
 by_cases hT : T = 0
 ·have qT : ((T : Int) == 0) = true := by rw [hT]; rfl
  have HT0 : Aside0 (rdBits s a 1 = 0) := ⟨by rw [← HT.out, hT]⟩
  clear hT
  go_wp2_with fail
  refine (get_good w2 p s (a + 1) 2 RD.out (by omega) (by omega) (by omega) (by omega)).mono ?_
  rintro e w3 ⟨rfl, hr_, hg_⟩
  replace RD : Aside0 (RdIs w3 p 146 s ((a + 3 : Nat) : Int) false) := ⟨by rw [show ((a + 3 : Nat) : Int) = ((a + 1 : Nat) : Int) + ((2 : Nat) : Int) by omega]; exact hr_⟩
  replace HG := Aside0.mk (only_trans HG.out hg_)
  clear hg_ hr_
  obtain ⟨Y, hY⟩ : ∃ V, V = rdBits s (a + 1) 2 := ⟨_, rfl⟩
  have lY : Y < 2 ^ 2 := by rw [hY]; exact rdBits_lt _ _ _
  rw [← hY]
  have HY := Aside0.mk hY
  clear hY
  go_wp2_with fail
  refine (get_good w3 p s (a + 3) 13 RD.out (by omega) (by omega) (by omega) (by omega)).mono ?_
  rintro e w4 ⟨rfl, hr_, hg_⟩
  replace RD : Aside0 (RdIs w4 p 146 s ((a + 16 : Nat) : Int) false) := ⟨by rw [show ((a + 16 : Nat) : Int) = ((a + 3 : Nat) : Int) + ((13 : Nat) : Int) by omega]; exact hr_⟩
  replace HG := Aside0.mk (only_trans HG.out hg_)
  clear hg_ hr_
  obtain ⟨n, hn⟩ : ∃ V, V = rdBits s (a + 3) 13 := ⟨_, rfl⟩
  have ln : n < 2 ^ 13 := by rw [hn]; exact rdBits_lt _ _ _
  rw [← hn]
  have Hn := Aside0.mk hn
  clear hn
  have HY2 : Aside0 (rdBits s (a + 1) 2 = Y) := ⟨HY.out.symm⟩
  have Hn2 : Aside0 (rdBits s (a + 3) 13 = n) := ⟨Hn.out.symm⟩
  by_cases hY : 2 < Y
  ·have qY : decide (2 < (Y : Int)) = true := decide_eq_true (by omega)
   have HP := Aside0.mk (show chunkP s a left = ([], 100) by unfold chunkP; rw [if_neg z1, if_pos HT0.out, HY2.out, if_pos (.inl hY)])
   go_wp2_with fail
   go_ret2
   exact ⟨_, by rw [HP.out]; rfl, HG.out, fun h => absurd h (by rw [HP.out]; decide), fun _ => rfl⟩
  have qY : decide (2 < (Y : Int)) = false := decide_eq_false (by omega)
  by_cases hn0 : n = 0
  ·have qn : ((n : Int) == 0) = true := by rw [hn0]; rfl
   have HP := Aside0.mk (show chunkP s a left = ([], 100) by unfold chunkP; rw [if_neg z1, if_pos HT0.out, Hn2.out, if_pos (.inr hn0)])
   clear hn0
   go_wp2_with fail
   go_ret2
   exact ⟨_, by rw [HP.out]; rfl, HG.out, fun h => absurd h (by rw [HP.out]; decide), fun _ => rfl⟩
  have qn : ((n : Int) == 0) = false := by simp; omega
  by_cases hln : left < n
  ·have qm : decide ((left : Int) < (n : Int)) = true := decide_eq_true (by omega)
   have emn : min n left = left := by omega
   have hmn9 : left ≤ 4096 := by omega
   have HP := Aside0.mk (show chunkP s a left = (List.replicate left (Y : Int), 0) by unfold chunkP; rw [if_neg z1, if_pos HT0.out, HY2.out, Hn2.out, if_neg (by omega), emn])
   clear emn
   go_wp2_with fail
   go_loopw [6, 35] (fun v6 v35 wr => ChRun a p left Y s w v6 v35 wr) (fun _ v _ => left - (intOf v).toNat)
   case atStart => exact ⟨0, rfl, by omega, ⟨by simpa [iV] using RowV.nil w4 w.heap.size 3 1⟩, RD, HG⟩
   case round =>
    clear RD HG
    obtain ⟨k, rfl, hk, HR, RD, HG⟩ := hrel
    by_cases hlt : k < left
    ·have q4 : decide ((k : Int) < (left : Int)) = true := decide_eq_true (by omega)
     have XD := Aside0.mk (gb_blk (World.grownBy_alloc wr (.cells #[.int .i64 (Y : Int)] 3) none) RD.out (fun k hk => by cases hk))
     have XR := Aside0.mk (HR.out.alloc (.cells #[.int .i64 (Y : Int)] 3))
     have XG := Aside0.mk (gb_alloc HG.out (.cells #[.int .i64 (Y : Int)] 3))
     have HNX := Aside0.mk (new_news wr [.int .i64 (Y : Int)] 3)
     have HBX : Aside0 (w.heap.size ≤ (wr.alloc (.cells #[.int .i64 (Y : Int)] 3)).heap.size) := ⟨XG.out.size⟩
     go_wp2_with (at_builtin; go_loud (refine row_append (w := wr.alloc (.cells #[.int .i64 (Y : Int)] 3)) rfl (.tmp 37) (.tmp 39) 24 rfl 3 Try.t3 (.int .i64 0) 1 8 Try.underlying24 (by kernel_rfl) rfl rfl rfl (by decide) (by decide) w.heap.size _ (k) (iV (List.replicate k (Y : Int))) (by rfl) XR.out ⟨wr.heap.size, 0, none⟩ 1 1 [.int .i64 (Y : Int)] (by rfl) rfl HNX.out (by simp [Value.oneCell']) (by simp only [maxLen]; omega) (by omega) HBX.out ?_); intro v1 w6 hR6 hG6 hO6 hF6; have XD' := Aside0.mk (gb_blkR hG6 XR.out XD.out (by decide)); have XG' := Aside0.mk (gb_row XG.out hG6 (fun k hk => (XR.out.lt hk).2.1)); have HR6 := Aside0.mk hR6; clear hR6 hG6 hO6 hF6)
     refine ⟨⟨k + 1, by simp, by omega, ⟨?_⟩, XD', XG'⟩, by simp [intOf]; omega⟩
     rw [List.replicate_succ', iV_snoc]
     exact HR6.out
    ·have hkm : k = left := by omega
     have q4 : decide ((k : Int) < (left : Int)) = false := decide_eq_false (by omega)
     rw [hkm] at HR
     clear hkm
     go_wp2_with fail
     go_ret2
     exact ⟨_, by rw [HP.out]; rfl, HG.out, fun _ => ⟨by rw [HP.out, List.length_replicate]; exact HR.out, RD.out⟩, fun h => absurd (by rw [HP.out]) h⟩
  ·have qm : decide ((left : Int) < (n : Int)) = false := decide_eq_false (by omega)
   have emn : min n left = n := by omega
   have hmn9 : n ≤ 4096 := by omega
   have HP := Aside0.mk (show chunkP s a left = (List.replicate n (Y : Int), 0) by unfold chunkP; rw [if_neg z1, if_pos HT0.out, HY2.out, Hn2.out, if_neg (by omega), emn])
   clear emn
   go_wp2_with fail
   go_loopw [6, 35] (fun v6 v35 wr => ChRun a p n Y s w v6 v35 wr) (fun _ v _ => n - (intOf v).toNat)
   case atStart => exact ⟨0, rfl, by omega, ⟨by simpa [iV] using RowV.nil w4 w.heap.size 3 1⟩, RD, HG⟩
   case round =>
    clear RD HG
    obtain ⟨k, rfl, hk, HR, RD, HG⟩ := hrel
    by_cases hlt : k < n
    ·have q4 : decide ((k : Int) < (n : Int)) = true := decide_eq_true (by omega)
     have XD := Aside0.mk (gb_blk (World.grownBy_alloc wr (.cells #[.int .i64 (Y : Int)] 3) none) RD.out (fun k hk => by cases hk))
     have XR := Aside0.mk (HR.out.alloc (.cells #[.int .i64 (Y : Int)] 3))
     have XG := Aside0.mk (gb_alloc HG.out (.cells #[.int .i64 (Y : Int)] 3))
     have HNX := Aside0.mk (new_news wr [.int .i64 (Y : Int)] 3)
     have HBX : Aside0 (w.heap.size ≤ (wr.alloc (.cells #[.int .i64 (Y : Int)] 3)).heap.size) := ⟨XG.out.size⟩
     go_wp2_with (at_builtin; go_loud (refine row_append (w := wr.alloc (.cells #[.int .i64 (Y : Int)] 3)) rfl (.tmp 37) (.tmp 39) 24 rfl 3 Try.t3 (.int .i64 0) 1 8 Try.underlying24 (by kernel_rfl) rfl rfl rfl (by decide) (by decide) w.heap.size _ (k) (iV (List.replicate k (Y : Int))) (by rfl) XR.out ⟨wr.heap.size, 0, none⟩ 1 1 [.int .i64 (Y : Int)] (by rfl) rfl HNX.out (by simp [Value.oneCell']) (by simp only [maxLen]; omega) (by omega) HBX.out ?_); intro v1 w6 hR6 hG6 hO6 hF6; have XD' := Aside0.mk (gb_blkR hG6 XR.out XD.out (by decide)); have XG' := Aside0.mk (gb_row XG.out hG6 (fun k hk => (XR.out.lt hk).2.1)); have HR6 := Aside0.mk hR6; clear hR6 hG6 hO6 hF6)
     refine ⟨⟨k + 1, by simp, by omega, ⟨?_⟩, XD', XG'⟩, by simp [intOf]; omega⟩
     rw [List.replicate_succ', iV_snoc]
     exact HR6.out
    ·have hkm : k = n := by omega
     have q4 : decide ((k : Int) < (n : Int)) = false := decide_eq_false (by omega)
     rw [hkm] at HR
     clear hkm
     go_wp2_with fail
     go_ret2
     exact ⟨_, by rw [HP.out]; rfl, HG.out, fun _ => ⟨by rw [HP.out, List.length_replicate]; exact HR.out, RD.out⟩, fun h => absurd (by rw [HP.out]) h⟩
 ·have qT : ((T : Int) == 0) = false := by simp; omega
  have HT1 : Aside0 (¬ rdBits s a 1 = 0) := ⟨by rw [← HT.out]; exact hT⟩
  clear hT
  go_wp2_with fail
  refine (get_good w2 p s (a + 1) 1 RD.out (by omega) (by omega) (by omega) (by omega)).mono ?_
  rintro e w4 ⟨rfl, hr_, hg_⟩
  replace RD : Aside0 (RdIs w4 p 146 s ((a + 2 : Nat) : Int) false) := ⟨by rw [show ((a + 2 : Nat) : Int) = ((a + 1 : Nat) : Int) + ((1 : Nat) : Int) by omega]; exact hr_⟩
  replace HG := Aside0.mk (only_trans HG.out hg_)
  clear hg_ hr_
  obtain ⟨U, hU⟩ : ∃ V, V = rdBits s (a + 1) 1 := ⟨_, rfl⟩
  have lU : U < 2 ^ 1 := by rw [hU]; exact rdBits_lt _ _ _
  rw [← hU]
  have HU := Aside0.mk hU
  clear hU
  by_cases hU : U = 1
  ·have qU : ((U : Int) == 1) = true := by rw [hU]; rfl
   have HTWO : Aside0 ((if rdBits s (a + 1) 1 = 1 then (if chOk s a 2 left 7 = true then (chL s a 2 (min 7 left), (0 : Int)) else ([], 100)) else (if chOk s a 1 left 14 = true then (chL s a 1 (min 14 left), 0) else ([], 100))) = (if chOk s a 2 left 7 = true then (chL s a 2 (min 7 left), 0) else ([], 100))) := ⟨if_pos (by rw [← HU.out]; exact hU)⟩
   clear hU
   go_wp2_with fail
   go_loopw [6, 11, 12, 13, 47] (fun v6 v11 _ _ v47 wr => ChRel s a p left 2 7 w v6 v11 v47 wr) (fun _ _ _ _ v _ => 7 - (intOf v).toNat)
   case atStart => exact ⟨0, rfl, rfl, by omega, ⟨by simpa [chL, iV] using RowV.nil w4 w.heap.size 3 1⟩, ⟨RD.out⟩, HG⟩
   case round =>
    clear RD HG
    obtain ⟨k, rfl, rfl, hk, HR, RD, HG⟩ := hrel
    by_cases hlt : k < 7
    ·have q4 : decide ((k : Int) < 7) = true := decide_eq_true (by omega)
     go_wp2_with fail
     refine (get_good wr p s (a + 2 + 2 * k) 2 RD.out (by omega) (by omega) (by omega) (by omega)).mono ?_
     rintro e y1 ⟨rfl, hr_, hg_⟩
     replace HR := Aside0.mk (HR.out.gb hg_ (fun k hk => by injection hk with hk; subst hk; exact HR.out.ne RD.out (by decide)))
     replace RD : Aside0 (RdIs y1 p 146 s ((a + 2 + 2 * (k + 1) : Nat) : Int) false) := ⟨by rw [show ((a + 2 + 2 * (k + 1) : Nat) : Int) = ((a + 2 + 2 * k : Nat) : Int) + ((2 : Nat) : Int) by omega]; exact hr_⟩
     replace HG := Aside0.mk (only_trans HG.out hg_)
     clear hg_ hr_
     obtain ⟨S, hS⟩ : ∃ V, V = rdBits s (a + 2 + 2 * k) 2 := ⟨_, rfl⟩
     have lS : S < 2 ^ 2 := by rw [hS]; exact rdBits_lt _ _ _
     rw [← hS]
     have HS := Aside0.mk hS
     clear hS
     have HSS : Aside0 (chS s a 2 k = S) := ⟨HS.out.symm⟩
     have hSu := chOk_succ s a 2 left k
     have hsl : S ≤ 3 := by omega
     obtain ⟨B, hB⟩ : ∃ B, B = chOk s a 2 left k := ⟨_, rfl⟩
     rw [← hB]
     rw [HSS.out, ← hB] at hSu
     have HSU := Aside0.mk hSu
     clear hSu hB
     by_cases hI : k < left
     ·have qI : decide ((k : Int) < (left : Int)) = true := decide_eq_true (by omega)
      have qI' : decide (k < left) = true := decide_eq_true hI
      by_cases hS2 : S ≤ 2
      ·have qS : decide ((S : Int) ≤ 2) = true := decide_eq_true (by omega)
       have qS' : decide (S ≤ 2) = true := decide_eq_true hS2
       cases B
       ·have hmin : min k left = k := by omega
        have hmin2 : min (k + 1) left = k + 1 := by omega
        rw [hmin] at HR
        clear hmin
        have XD := Aside0.mk (gb_blk (World.grownBy_alloc y1 (.cells #[.int .i64 (S : Int)] 3) none) RD.out (fun k hk => by cases hk))
        have XR := Aside0.mk (HR.out.alloc (.cells #[.int .i64 (S : Int)] 3))
        have XG := Aside0.mk (gb_alloc HG.out (.cells #[.int .i64 (S : Int)] 3))
        have HNX := Aside0.mk (new_news y1 [.int .i64 (S : Int)] 3)
        have HBX : Aside0 (w.heap.size ≤ (y1.alloc (.cells #[.int .i64 (S : Int)] 3)).heap.size) := ⟨XG.out.size⟩
        go_wp2_with (at_builtin; go_loud (refine row_append (w := y1.alloc (.cells #[.int .i64 (S : Int)] 3)) rfl (.tmp 71) (.tmp 73) 24 rfl 3 Try.t3 (.int .i64 0) 1 8 Try.underlying24 (by kernel_rfl) rfl rfl rfl (by decide) (by decide) w.heap.size _ (k) (iV (chL s a 2 k)) (by rfl) XR.out ⟨y1.heap.size, 0, none⟩ 1 1 [.int .i64 (S : Int)] (by rfl) rfl HNX.out (by simp [Value.oneCell']) (by simp only [maxLen]; omega) (by omega) HBX.out ?_); intro v1 w6 hR6 hG6 hO6 hF6; have XD' := Aside0.mk (gb_blkR hG6 XR.out XD.out (by decide)); have XG' := Aside0.mk (gb_row XG.out hG6 (fun k hk => (XR.out.lt hk).2.1)); have HR6 := Aside0.mk hR6; clear hR6 hG6 hO6 hF6)
        refine ⟨⟨k + 1, by simp, by rw [HSU.out]; simp [qS', qI'], by omega, ⟨?_⟩, XD', XG'⟩, by simp [intOf]; omega⟩
        rw [hmin2, chL_succ, iV_snoc, HSS.out]
        exact HR6.out
       ·have hmin : min k left = k := by omega
        have hmin2 : min (k + 1) left = k + 1 := by omega
        rw [hmin] at HR
        clear hmin
        have XD := Aside0.mk (gb_blk (World.grownBy_alloc y1 (.cells #[.int .i64 (S : Int)] 3) none) RD.out (fun k hk => by cases hk))
        have XR := Aside0.mk (HR.out.alloc (.cells #[.int .i64 (S : Int)] 3))
        have XG := Aside0.mk (gb_alloc HG.out (.cells #[.int .i64 (S : Int)] 3))
        have HNX := Aside0.mk (new_news y1 [.int .i64 (S : Int)] 3)
        have HBX : Aside0 (w.heap.size ≤ (y1.alloc (.cells #[.int .i64 (S : Int)] 3)).heap.size) := ⟨XG.out.size⟩
        go_wp2_with (at_builtin; go_loud (refine row_append (w := y1.alloc (.cells #[.int .i64 (S : Int)] 3)) rfl (.tmp 71) (.tmp 73) 24 rfl 3 Try.t3 (.int .i64 0) 1 8 Try.underlying24 (by kernel_rfl) rfl rfl rfl (by decide) (by decide) w.heap.size _ (k) (iV (chL s a 2 k)) (by rfl) XR.out ⟨y1.heap.size, 0, none⟩ 1 1 [.int .i64 (S : Int)] (by rfl) rfl HNX.out (by simp [Value.oneCell']) (by simp only [maxLen]; omega) (by omega) HBX.out ?_); intro v1 w6 hR6 hG6 hO6 hF6; have XD' := Aside0.mk (gb_blkR hG6 XR.out XD.out (by decide)); have XG' := Aside0.mk (gb_row XG.out hG6 (fun k hk => (XR.out.lt hk).2.1)); have HR6 := Aside0.mk hR6; clear hR6 hG6 hO6 hF6)
        refine ⟨⟨k + 1, by simp, by rw [HSU.out]; simp [qS', qI'], by omega, ⟨?_⟩, XD', XG'⟩, by simp [intOf]; omega⟩
        rw [hmin2, chL_succ, iV_snoc, HSS.out]
        exact HR6.out
      ·have qS : decide ((S : Int) ≤ 2) = false := decide_eq_false (by omega)
       have qS' : decide (S ≤ 2) = false := decide_eq_false hS2
       cases B
       ·have hmin : min k left = k := by omega
        have hmin2 : min (k + 1) left = k + 1 := by omega
        rw [hmin] at HR
        clear hmin
        have XD := Aside0.mk (gb_blk (World.grownBy_alloc y1 (.cells #[.int .i64 (S : Int)] 3) none) RD.out (fun k hk => by cases hk))
        have XR := Aside0.mk (HR.out.alloc (.cells #[.int .i64 (S : Int)] 3))
        have XG := Aside0.mk (gb_alloc HG.out (.cells #[.int .i64 (S : Int)] 3))
        have HNX := Aside0.mk (new_news y1 [.int .i64 (S : Int)] 3)
        have HBX : Aside0 (w.heap.size ≤ (y1.alloc (.cells #[.int .i64 (S : Int)] 3)).heap.size) := ⟨XG.out.size⟩
        go_wp2_with (at_builtin; go_loud (refine row_append (w := y1.alloc (.cells #[.int .i64 (S : Int)] 3)) rfl (.tmp 71) (.tmp 73) 24 rfl 3 Try.t3 (.int .i64 0) 1 8 Try.underlying24 (by kernel_rfl) rfl rfl rfl (by decide) (by decide) w.heap.size _ (k) (iV (chL s a 2 k)) (by rfl) XR.out ⟨y1.heap.size, 0, none⟩ 1 1 [.int .i64 (S : Int)] (by rfl) rfl HNX.out (by simp [Value.oneCell']) (by simp only [maxLen]; omega) (by omega) HBX.out ?_); intro v1 w6 hR6 hG6 hO6 hF6; have XD' := Aside0.mk (gb_blkR hG6 XR.out XD.out (by decide)); have XG' := Aside0.mk (gb_row XG.out hG6 (fun k hk => (XR.out.lt hk).2.1)); have HR6 := Aside0.mk hR6; clear hR6 hG6 hO6 hF6)
        refine ⟨⟨k + 1, by simp, by rw [HSU.out]; simp [qS', qI'], by omega, ⟨?_⟩, XD', XG'⟩, by simp [intOf]; omega⟩
        rw [hmin2, chL_succ, iV_snoc, HSS.out]
        exact HR6.out
       ·have hmin : min k left = k := by omega
        have hmin2 : min (k + 1) left = k + 1 := by omega
        rw [hmin] at HR
        clear hmin
        have XD := Aside0.mk (gb_blk (World.grownBy_alloc y1 (.cells #[.int .i64 (S : Int)] 3) none) RD.out (fun k hk => by cases hk))
        have XR := Aside0.mk (HR.out.alloc (.cells #[.int .i64 (S : Int)] 3))
        have XG := Aside0.mk (gb_alloc HG.out (.cells #[.int .i64 (S : Int)] 3))
        have HNX := Aside0.mk (new_news y1 [.int .i64 (S : Int)] 3)
        have HBX : Aside0 (w.heap.size ≤ (y1.alloc (.cells #[.int .i64 (S : Int)] 3)).heap.size) := ⟨XG.out.size⟩
        go_wp2_with (at_builtin; go_loud (refine row_append (w := y1.alloc (.cells #[.int .i64 (S : Int)] 3)) rfl (.tmp 71) (.tmp 73) 24 rfl 3 Try.t3 (.int .i64 0) 1 8 Try.underlying24 (by kernel_rfl) rfl rfl rfl (by decide) (by decide) w.heap.size _ (k) (iV (chL s a 2 k)) (by rfl) XR.out ⟨y1.heap.size, 0, none⟩ 1 1 [.int .i64 (S : Int)] (by rfl) rfl HNX.out (by simp [Value.oneCell']) (by simp only [maxLen]; omega) (by omega) HBX.out ?_); intro v1 w6 hR6 hG6 hO6 hF6; have XD' := Aside0.mk (gb_blkR hG6 XR.out XD.out (by decide)); have XG' := Aside0.mk (gb_row XG.out hG6 (fun k hk => (XR.out.lt hk).2.1)); have HR6 := Aside0.mk hR6; clear hR6 hG6 hO6 hF6)
        refine ⟨⟨k + 1, by simp, by rw [HSU.out]; simp [qS', qI'], by omega, ⟨?_⟩, XD', XG'⟩, by simp [intOf]; omega⟩
        rw [hmin2, chL_succ, iV_snoc, HSS.out]
        exact HR6.out
     ·have qI : decide ((k : Int) < (left : Int)) = false := decide_eq_false (by omega)
      have qI' : decide (k < left) = false := decide_eq_false hI
      by_cases hS2 : S ≤ 2
      ·have qS : decide ((S : Int) ≤ 2) = true := decide_eq_true (by omega)
       have qS' : decide (S ≤ 2) = true := decide_eq_true hS2
       by_cases h0 : S = 0
       ·have q0 : ((S : Int) == 0) = true := by rw [h0]; rfl
        have q0' : (S == 0) = true := by rw [h0]; rfl
        have H0 := Aside0.mk h0
        clear h0
        cases B
        ·have hmin : min k left = min (k + 1) left := by omega
         rw [hmin] at HR
         go_wp2_with fail
         exact ⟨⟨k + 1, by simp, by rw [HSU.out]; simp [qS', qI', q0'], by omega, HR, RD, HG⟩, by simp [intOf]; omega⟩
        ·have hmin : min k left = min (k + 1) left := by omega
         rw [hmin] at HR
         go_wp2_with fail
         exact ⟨⟨k + 1, by simp, by rw [HSU.out]; simp [qS', qI', q0'], by omega, HR, RD, HG⟩, by simp [intOf]; omega⟩
       ·have q0 : ((S : Int) == 0) = false := by simp; omega
        have q0' : (S == 0) = false := by simp; omega
        cases B
        ·have hmin : min k left = min (k + 1) left := by omega
         rw [hmin] at HR
         go_wp2_with fail
         exact ⟨⟨k + 1, by simp, by rw [HSU.out]; simp [qS', qI', q0'], by omega, HR, RD, HG⟩, by simp [intOf]; omega⟩
        ·have hmin : min k left = min (k + 1) left := by omega
         rw [hmin] at HR
         go_wp2_with fail
         exact ⟨⟨k + 1, by simp, by rw [HSU.out]; simp [qS', qI', q0'], by omega, HR, RD, HG⟩, by simp [intOf]; omega⟩
      ·have qS : decide ((S : Int) ≤ 2) = false := decide_eq_false (by omega)
       have qS' : decide (S ≤ 2) = false := decide_eq_false hS2
       cases B
       ·have hmin : min k left = min (k + 1) left := by omega
        rw [hmin] at HR
        go_wp2_with fail
        exact ⟨⟨k + 1, by simp, by rw [HSU.out]; simp [qS', qI'], by omega, HR, RD, HG⟩, by simp [intOf]; omega⟩
       ·have hmin : min k left = min (k + 1) left := by omega
        rw [hmin] at HR
        go_wp2_with fail
        exact ⟨⟨k + 1, by simp, by rw [HSU.out]; simp [qS', qI'], by omega, HR, RD, HG⟩, by simp [intOf]; omega⟩
    ·have hkm : k = 7 := by omega
     subst hkm
     have q4 : decide (((7 : Nat) : Int) < 7) = false := by decide
     cases hB : chOk s a 2 left 7
     ·have HP := Aside0.mk (show chunkP s a left = ([], 100) by unfold chunkP; rw [if_neg z1, if_neg HT1.out, HTWO.out, hB]; rfl)
      go_wp2_with fail
      go_ret2
      exact ⟨_, by rw [HP.out]; rfl, HG.out, fun h => absurd h (by rw [HP.out]; decide), fun _ => rfl⟩
     ·have HP := Aside0.mk (show chunkP s a left = (chL s a 2 (min 7 left), 0) by unfold chunkP; rw [if_neg z1, if_neg HT1.out, HTWO.out, hB]; rfl)
      go_wp2_with fail
      go_ret2
      exact ⟨_, by rw [HP.out]; rfl, HG.out, fun _ => ⟨by rw [HP.out, chL_length]; exact HR.out, RD.out⟩, fun h => absurd (by rw [HP.out]) h⟩
  ·have qU : ((U : Int) == 1) = false := by simp; omega
   have HTWO : Aside0 ((if rdBits s (a + 1) 1 = 1 then (if chOk s a 2 left 7 = true then (chL s a 2 (min 7 left), (0 : Int)) else ([], 100)) else (if chOk s a 1 left 14 = true then (chL s a 1 (min 14 left), 0) else ([], 100))) = (if chOk s a 1 left 14 = true then (chL s a 1 (min 14 left), 0) else ([], 100))) := ⟨if_neg (by rw [← HU.out]; exact hU)⟩
   clear hU
   go_wp2_with fail
   go_loopw [6, 11, 12, 13, 47] (fun v6 v11 _ _ v47 wr => ChRel s a p left 1 14 w v6 v11 v47 wr) (fun _ _ _ _ v _ => 14 - (intOf v).toNat)
   case atStart => exact ⟨0, rfl, rfl, by omega, ⟨by simpa [chL, iV] using RowV.nil w4 w.heap.size 3 1⟩, ⟨RD.out⟩, HG⟩
   case round =>
    clear RD HG
    obtain ⟨k, rfl, rfl, hk, HR, RD, HG⟩ := hrel
    by_cases hlt : k < 14
    ·have q4 : decide ((k : Int) < 14) = true := decide_eq_true (by omega)
     go_wp2_with fail
     refine (get_good wr p s (a + 2 + 1 * k) 1 RD.out (by omega) (by omega) (by omega) (by omega)).mono ?_
     rintro e y1 ⟨rfl, hr_, hg_⟩
     replace HR := Aside0.mk (HR.out.gb hg_ (fun k hk => by injection hk with hk; subst hk; exact HR.out.ne RD.out (by decide)))
     replace RD : Aside0 (RdIs y1 p 146 s ((a + 2 + 1 * (k + 1) : Nat) : Int) false) := ⟨by rw [show ((a + 2 + 1 * (k + 1) : Nat) : Int) = ((a + 2 + 1 * k : Nat) : Int) + ((1 : Nat) : Int) by omega]; exact hr_⟩
     replace HG := Aside0.mk (only_trans HG.out hg_)
     clear hg_ hr_
     obtain ⟨S, hS⟩ : ∃ V, V = rdBits s (a + 2 + 1 * k) 1 := ⟨_, rfl⟩
     have lS : S < 2 ^ 1 := by rw [hS]; exact rdBits_lt _ _ _
     rw [← hS]
     have HS := Aside0.mk hS
     clear hS
     have HSS : Aside0 (chS s a 1 k = S) := ⟨HS.out.symm⟩
     have hSu := chOk_succ s a 1 left k
     have hsl : S ≤ 3 := by omega
     obtain ⟨B, hB⟩ : ∃ B, B = chOk s a 1 left k := ⟨_, rfl⟩
     rw [← hB]
     rw [HSS.out, ← hB] at hSu
     have HSU := Aside0.mk hSu
     clear hSu hB
     by_cases hI : k < left
     ·have qI : decide ((k : Int) < (left : Int)) = true := decide_eq_true (by omega)
      have qI' : decide (k < left) = true := decide_eq_true hI
      by_cases hS2 : S ≤ 2
      ·have qS : decide ((S : Int) ≤ 2) = true := decide_eq_true (by omega)
       have qS' : decide (S ≤ 2) = true := decide_eq_true hS2
       cases B
       ·have hmin : min k left = k := by omega
        have hmin2 : min (k + 1) left = k + 1 := by omega
        rw [hmin] at HR
        clear hmin
        have XD := Aside0.mk (gb_blk (World.grownBy_alloc y1 (.cells #[.int .i64 (S : Int)] 3) none) RD.out (fun k hk => by cases hk))
        have XR := Aside0.mk (HR.out.alloc (.cells #[.int .i64 (S : Int)] 3))
        have XG := Aside0.mk (gb_alloc HG.out (.cells #[.int .i64 (S : Int)] 3))
        have HNX := Aside0.mk (new_news y1 [.int .i64 (S : Int)] 3)
        have HBX : Aside0 (w.heap.size ≤ (y1.alloc (.cells #[.int .i64 (S : Int)] 3)).heap.size) := ⟨XG.out.size⟩
        go_wp2_with (at_builtin; go_loud (refine row_append (w := y1.alloc (.cells #[.int .i64 (S : Int)] 3)) rfl (.tmp 71) (.tmp 73) 24 rfl 3 Try.t3 (.int .i64 0) 1 8 Try.underlying24 (by kernel_rfl) rfl rfl rfl (by decide) (by decide) w.heap.size _ (k) (iV (chL s a 1 k)) (by rfl) XR.out ⟨y1.heap.size, 0, none⟩ 1 1 [.int .i64 (S : Int)] (by rfl) rfl HNX.out (by simp [Value.oneCell']) (by simp only [maxLen]; omega) (by omega) HBX.out ?_); intro v1 w6 hR6 hG6 hO6 hF6; have XD' := Aside0.mk (gb_blkR hG6 XR.out XD.out (by decide)); have XG' := Aside0.mk (gb_row XG.out hG6 (fun k hk => (XR.out.lt hk).2.1)); have HR6 := Aside0.mk hR6; clear hR6 hG6 hO6 hF6)
        refine ⟨⟨k + 1, by simp, by rw [HSU.out]; simp [qS', qI'], by omega, ⟨?_⟩, XD', XG'⟩, by simp [intOf]; omega⟩
        rw [hmin2, chL_succ, iV_snoc, HSS.out]
        exact HR6.out
       ·have hmin : min k left = k := by omega
        have hmin2 : min (k + 1) left = k + 1 := by omega
        rw [hmin] at HR
        clear hmin
        have XD := Aside0.mk (gb_blk (World.grownBy_alloc y1 (.cells #[.int .i64 (S : Int)] 3) none) RD.out (fun k hk => by cases hk))
        have XR := Aside0.mk (HR.out.alloc (.cells #[.int .i64 (S : Int)] 3))
        have XG := Aside0.mk (gb_alloc HG.out (.cells #[.int .i64 (S : Int)] 3))
        have HNX := Aside0.mk (new_news y1 [.int .i64 (S : Int)] 3)
        have HBX : Aside0 (w.heap.size ≤ (y1.alloc (.cells #[.int .i64 (S : Int)] 3)).heap.size) := ⟨XG.out.size⟩
        go_wp2_with (at_builtin; go_loud (refine row_append (w := y1.alloc (.cells #[.int .i64 (S : Int)] 3)) rfl (.tmp 71) (.tmp 73) 24 rfl 3 Try.t3 (.int .i64 0) 1 8 Try.underlying24 (by kernel_rfl) rfl rfl rfl (by decide) (by decide) w.heap.size _ (k) (iV (chL s a 1 k)) (by rfl) XR.out ⟨y1.heap.size, 0, none⟩ 1 1 [.int .i64 (S : Int)] (by rfl) rfl HNX.out (by simp [Value.oneCell']) (by simp only [maxLen]; omega) (by omega) HBX.out ?_); intro v1 w6 hR6 hG6 hO6 hF6; have XD' := Aside0.mk (gb_blkR hG6 XR.out XD.out (by decide)); have XG' := Aside0.mk (gb_row XG.out hG6 (fun k hk => (XR.out.lt hk).2.1)); have HR6 := Aside0.mk hR6; clear hR6 hG6 hO6 hF6)
        refine ⟨⟨k + 1, by simp, by rw [HSU.out]; simp [qS', qI'], by omega, ⟨?_⟩, XD', XG'⟩, by simp [intOf]; omega⟩
        rw [hmin2, chL_succ, iV_snoc, HSS.out]
        exact HR6.out
      ·exact absurd hS2 (by omega)
     ·have qI : decide ((k : Int) < (left : Int)) = false := decide_eq_false (by omega)
      have qI' : decide (k < left) = false := decide_eq_false hI
      by_cases hS2 : S ≤ 2
      ·have qS : decide ((S : Int) ≤ 2) = true := decide_eq_true (by omega)
       have qS' : decide (S ≤ 2) = true := decide_eq_true hS2
       by_cases h0 : S = 0
       ·have q0 : ((S : Int) == 0) = true := by rw [h0]; rfl
        have q0' : (S == 0) = true := by rw [h0]; rfl
        have H0 := Aside0.mk h0
        clear h0
        cases B
        ·have hmin : min k left = min (k + 1) left := by omega
         rw [hmin] at HR
         go_wp2_with fail
         exact ⟨⟨k + 1, by simp, by rw [HSU.out]; simp [qS', qI', q0'], by omega, HR, RD, HG⟩, by simp [intOf]; omega⟩
        ·have hmin : min k left = min (k + 1) left := by omega
         rw [hmin] at HR
         go_wp2_with fail
         exact ⟨⟨k + 1, by simp, by rw [HSU.out]; simp [qS', qI', q0'], by omega, HR, RD, HG⟩, by simp [intOf]; omega⟩
       ·have q0 : ((S : Int) == 0) = false := by simp; omega
        have q0' : (S == 0) = false := by simp; omega
        cases B
        ·have hmin : min k left = min (k + 1) left := by omega
         rw [hmin] at HR
         go_wp2_with fail
         exact ⟨⟨k + 1, by simp, by rw [HSU.out]; simp [qS', qI', q0'], by omega, HR, RD, HG⟩, by simp [intOf]; omega⟩
        ·have hmin : min k left = min (k + 1) left := by omega
         rw [hmin] at HR
         go_wp2_with fail
         exact ⟨⟨k + 1, by simp, by rw [HSU.out]; simp [qS', qI', q0'], by omega, HR, RD, HG⟩, by simp [intOf]; omega⟩
      ·exact absurd hS2 (by omega)
    ·have hkm : k = 14 := by omega
     subst hkm
     have q4 : decide (((14 : Nat) : Int) < 14) = false := by decide
     cases hB : chOk s a 1 left 14
     ·have HP := Aside0.mk (show chunkP s a left = ([], 100) by unfold chunkP; rw [if_neg z1, if_neg HT1.out, HTWO.out, hB]; rfl)
      go_wp2_with fail
      go_ret2
      exact ⟨_, by rw [HP.out]; rfl, HG.out, fun h => absurd h (by rw [HP.out]; decide), fun _ => rfl⟩
     ·have HP := Aside0.mk (show chunkP s a left = (chL s a 1 (min 14 left), 0) by unfold chunkP; rw [if_neg z1, if_neg HT1.out, HTWO.out, hB]; rfl)
      go_wp2_with fail
      go_ret2
      exact ⟨_, by rw [HP.out]; rfl, HG.out, fun _ => ⟨by rw [HP.out, chL_length]; exact HR.out, RD.out⟩, fun h => absurd (by rw [HP.out]) h⟩
end Go.Proofs.Ytgakmnholegbgaa.B
end
