/-
  Slices that lie within a row of their own: read, cut, and appended to. Laws over memory.
-/
import Derived.Test.YtkjjjgplidompaaDoorTo
import Derived.ArgAppend
namespace Go.Proofs.YtkjjjgplidompaaDoor.B
open Go.RowKit Go.Proofs.YtkjjjgplidompaaDoorW.PrintWords Go.Proofs.YtkjjjgplidompaaDoorW.PrintLast Go.Proofs.YtkjjjgplidompaaDoorW.PrintMore
set_option linter.unusedVariables false
set_option linter.unusedSimpArgs false
theorem setCells_frame (b : Nat) : ∀ (vs : List Value) (o : Nat) (w : World), (w.setCells b o vs).os = w.os ∧ (w.setCells b o vs).tape = w.tape ∧ (w.setCells b o vs).output = w.output ∧ (w.setCells b o vs).heap.size = w.heap.size ∧ (∀ k, k ≠ b → (w.setCells b o vs).heap[k]? = w.heap[k]?)
  | [], _, _ => ⟨rfl, rfl, rfl, rfl, fun _ _ => rfl⟩
  | v :: r, o, w => by
    obtain ⟨h1, h2, h3, h4, h5⟩ := setCells_frame b r (o + 1) (w.setCell ⟨b, o, none⟩ v)
    rw [World.setCells]
    refine ⟨h1, h2, h3, h4.trans (by simp [World.setCell]), fun k hk => (h5 k hk).trans ?_⟩
    exact Below.heap_setCell w ⟨b, o, none⟩ v k hk
theorem shape_setCell (w : World) (a : Addr) (v : Value) (r : Nat) : (w.setCell a v).shape? r = w.shape? r := by
  by_cases h : r = a.block
  · subst h
    unfold World.setCell World.shape?
    simp only [Array.getElem?_modify, ↓reduceIte]
    cases hb : w.heap[a.block]? with
    | none => rfl
    | some o =>
      cases o <;> simp
      split <;> simp
  · unfold World.shape?
    rw [Below.heap_setCell w a v r h]
theorem shape_setCells (b r : Nat) : ∀ (vs : List Value) (o : Nat) (w : World), (w.setCells b o vs).shape? r = w.shape? r
  | [], _, _ => rfl
  | v :: l, o, w => by rw [World.setCells, shape_setCells b r l, shape_setCell]
/-- A slice of n elements of sz cells, that read xs; its row, of element type e, lies from base on. -/
def RowV (w : World) (base : Nat) (e : TypeId) (sz : Nat) (v : Value) (n : Nat) (xs : List Value) : Prop :=
  xs.length = n * sz ∧ ((v = .slice none 0 0 ∧ n = 0) ∨
    ∃ g off cap, v = .slice (some ⟨g, off, none⟩) n cap ∧ base ≤ g ∧ (w.shape? g).map (·.1) = some e ∧ n ≤ cap ∧ cap ≤ maxLen ∧ (∀ j u, xs[j]? = some u → w.cell? ⟨g, off + j, none⟩ = some u) ∧ (∀ j, j < cap * sz → (w.cell? ⟨g, off + j, none⟩).isSome = true ∧ w.frozen? ⟨g, off + j, none⟩ = false))
theorem RowV.nil (w : World) (base : Nat) (e : TypeId) (sz : Nat) : RowV w base e sz (.slice none 0 0) 0 [] := ⟨by simp, .inl ⟨rfl, rfl⟩⟩
theorem RowV.of_own {w : World} {base : Nat} {e : TypeId} {sz : Nat} {v : Value} {n : Nat} {xs : List Value} (h : w.ownsRow base e sz v n xs) : RowV w base e sz v n xs := by
  obtain ⟨hl, h | ⟨g, cap, cur, rfl, hb, hg, hn, hc, hs, ht⟩⟩ := h
  · exact ⟨hl, .inl h⟩
  · refine ⟨hl, .inr ⟨g, 0, cap, rfl, hb, by simp [World.shape?, hg], hn, hc, fun j u hj => ?_, fun j hj => ⟨?_, ?_⟩⟩⟩
    · rw [← ht, List.getElem?_take] at hj
      split at hj
      · simp [World.cell?, hg]
        simpa using hj
      · cases hj
    · simp [World.cell?, hg]
      omega
    · simp [World.frozen?, hg]
theorem RowV.form {w : World} {base : Nat} {e : TypeId} {sz : Nat} {v : Value} {n : Nat} {xs : List Value} (h : RowV w base e sz v n xs) : ∃ A c, v = .slice A n c ∧ n ≤ c ∧ c ≤ maxLen := by
  obtain ⟨_, ⟨rfl, rfl⟩ | ⟨g, off, cap, rfl, _, _, hn, hc, _⟩⟩ := h
  · exact ⟨_, _, rfl, by omega, by decide⟩
  · exact ⟨_, _, rfl, hn, hc⟩
theorem RowV.some_ {w : World} {base : Nat} {e : TypeId} {sz : Nat} {v : Value} {n : Nat} {xs : List Value} (h : RowV w base e sz v n xs) (h0 : 0 < n) : ∃ g off c, v = .slice (some ⟨g, off, none⟩) n c ∧ base ≤ g ∧ n ≤ c ∧ c ≤ maxLen ∧ (∀ j u, xs[j]? = some u → w.cell? ⟨g, off + j, none⟩ = some u) := by
  obtain ⟨_, ⟨rfl, rfl⟩ | ⟨g, off, cap, rfl, hb, _, hn, hc, hx, _⟩⟩ := h
  · omega
  · exact ⟨g, off, cap, rfl, hb, hn, hc, hx⟩
/-- What keeps the row's own block keeps the slice. -/
theorem RowV.keep {w w' : World} {base : Nat} {e : TypeId} {sz : Nat} {v : Value} {n : Nat} {xs : List Value} (h : RowV w base e sz v n xs) (hk : ∀ k, v.ownBlock = some k → base ≤ k → (w.shape? k).map (·.1) = some e → w'.heap[k]? = w.heap[k]?) : RowV w' base e sz v n xs := by
  obtain ⟨hl, ⟨rfl, rfl⟩ | ⟨g, off, cap, rfl, hb, hs, hn, hc, hx, hr⟩⟩ := h
  · exact ⟨hl, .inl ⟨rfl, rfl⟩⟩
  · have hg := hk g rfl hb hs
    refine ⟨hl, .inr ⟨g, off, cap, rfl, hb, by simpa [World.shape?, hg] using hs, hn, hc, fun j u hj => ?_, fun j hj => ?_⟩⟩
    · rw [World.cell?_of_block hg]
      exact hx j u hj
    · rw [World.cell?_of_block hg, World.frozen?_of_block hg]
      exact hr j hj
theorem RowV.lt {w : World} {base : Nat} {e : TypeId} {sz : Nat} {v : Value} {n : Nat} {xs : List Value} (h : RowV w base e sz v n xs) {k : Nat} (hk : v.ownBlock = some k) : k < w.heap.size ∧ base ≤ k ∧ (w.shape? k).map (·.1) = some e := by
  obtain ⟨hl, ⟨rfl, rfl⟩ | ⟨g, off, cap, rfl, hb, hs, hn, hc, hx, hr⟩⟩ := h
  · cases hk
  · have : g = k := by injection hk
    subst this
    refine ⟨?_, hb, hs⟩
    rcases Nat.lt_or_ge g w.heap.size with hlt | hge
    · exact hlt
    · simp [World.shape?, Array.getElem?_eq_none hge] at hs
theorem RowV.ne {w : World} {base : Nat} {e : TypeId} {sz : Nat} {v : Value} {n : Nat} {xs : List Value} (h : RowV w base e sz v n xs) {g : Nat} {cs : Array Value} {t : TypeId} {fr : Nat × Nat} (hg : w.heap[g]? = some (.cells cs t fr)) (ht : t ≠ e) : v.ownBlock ≠ some g := by
  intro hk
  have hs := (h.lt hk).2.2
  simp [World.shape?, hg] at hs
  exact ht hs
/-- Cut: v[a:b:c']. -/
theorem RowV.cut {w : World} {base : Nat} {e : TypeId} {sz g off n c : Nat} {xs : List Value} (h : RowV w base e sz (.slice (some ⟨g, off, none⟩) n c) n xs) (a b d : Nat) (h1 : a ≤ b) (h2 : b ≤ n) (h3 : b ≤ d) (h4 : d ≤ c) (off' : Nat) (ho : off' = off + a * sz ∨ (d = a ∧ off' = off)) :
    RowV w base e sz (.slice (some ⟨g, off', none⟩) (b - a) (d - a)) (b - a) ((xs.drop (a * sz)).take ((b - a) * sz)) := by
  obtain ⟨hl, ⟨e1, _⟩ | ⟨g', off2, cap, e1, hb, hs, hn, hc, hx, hr⟩⟩ := h
  · cases e1
  · injection e1 with e1 e2 e3
    injection e1 with e1
    injection e1 with e1 e4
    subst e1 e4 e3
    have hm : (b - a) * sz + a * sz = b * sz := by rw [← Nat.add_mul]; congr 1; omega
    have hm2 : b * sz ≤ n * sz := Nat.mul_le_mul_right _ h2
    have hm3 : (d - a) * sz + a * sz = d * sz := by rw [← Nat.add_mul]; congr 1; omega
    have hm4 : d * sz ≤ c * sz := Nat.mul_le_mul_right _ h4
    refine ⟨by rw [List.length_take, List.length_drop, hl]; omega, .inr ⟨g, off', d - a, rfl, hb, hs, by omega, by omega, fun j u hj => ?_, fun j hj => ?_⟩⟩
    · rw [List.getElem?_take] at hj
      split at hj
      · rename_i hlt
        rw [List.getElem?_drop] at hj
        rcases ho with ho | ⟨ho, ho2⟩
        · have := hx _ _ hj
          rw [ho, Nat.add_assoc]
          exact this
        · exfalso
          have hz : b - a = 0 := by omega
          rw [hz] at hlt
          omega
      · cases hj
    · rcases ho with ho | ⟨ho, _⟩
      · rw [ho, Nat.add_assoc]
        exact hr _ (by omega)
      · exfalso
        have : d - a = 0 := by omega
        rw [this] at hj
        omega
section
variable {P : Program} (w : World)
theorem row_append_run (t ty e : TypeId) (i : TypeInfo) (z : Value) (size bytes : Nat) (ht : P.underlying t = some (.slice e)) (hi : P.info? e = some i) (hz : i.zero = some z)
    (hsize : i.size = size) (hby : i.bytes = bytes) (hzs : z.cells.size = size) (hsz : 0 < size)
    (base : Nat) (v : Value) (n : Nat) (olds : List Value) (HR : RowV w base e size v n olds)
    (a : Addr) (m c : Nat) (news : List Value) (hl : news.length = m * size) (hnews : ∀ j u, news[j]? = some u → w.cell? (a.add j) = some u) (h1 : ∀ u ∈ news, u.oneCell' = true)
    (h63 : n + m ≤ maxLen) (hbytes : (n + m) * bytes ≤ 140737488355328) (hbase : base ≤ w.heap.size) :
    ∃ v' w', (Builtin.append_ #[t, t] ty #[v, .slice (some a) m c]).run P w = .ok v' w' ∧ RowV w' base e size v' (n + m) (olds ++ news) ∧ w.grownBy w' v.ownBlock ∧ (∀ k, v'.ownBlock = some k → v.ownBlock = some k ∨ w.heap.size ≤ k) ∧ (∀ A c, v = .slice A n c → c < n + m → w.grownBy w' none ∧ ∀ k, v'.ownBlock = some k → w.heap.size ≤ k) := by
  obtain ⟨hlo, ⟨rfl, rfl⟩ | ⟨g, off, cap, rfl, hb, hs, hn, hc, hx, hr⟩⟩ := HR
  · obtain rfl : olds = [] := List.eq_nil_of_length_eq_zero (by simpa using hlo)
    obtain ⟨v', w', hrun, r1, r2, _⟩ := run_append_own (P := P) w w.heap.size t ty e i z size bytes ht hi hz hsize hby hzs hsz (.slice none 0 0) 0 [] (World.ownsRow_nil w _ e size) a m c news hl hnews h1 h63 hbytes (Nat.le_refl _)
    have hv := RowV.of_own r1
    refine ⟨v', w', hrun, ?_, r2, fun k hk => .inr (hv.lt hk).2.1, fun _ _ _ _ => ⟨r2, fun k hk => (hv.lt hk).2.1⟩⟩
    obtain ⟨q1, q2 | ⟨g, off, cap, q3, q4, q5⟩⟩ := hv
    · exact ⟨q1, .inl q2⟩
    · exact ⟨q1, .inr ⟨g, off, cap, q3, Nat.le_trans hbase q4, q5⟩⟩
  · by_cases hroom : n + m ≤ cap
    · have hcap : n * size + news.length ≤ cap * size := by rw [hl, ← Nat.add_mul]; exact Nat.mul_le_mul_right _ hroom
      subst hsize
      have hrun := run_append_room_cells (P := P) w t ty e i ht hi g off n cap a m c news hl hnews h1 hroom (fun j hj => by rw [Nat.add_assoc]; exact (hr _ (by omega)).1) (fun j hj => by rw [Nat.add_assoc]; exact (hr _ (by omega)).2)
      obtain ⟨f1, f2, f3, f4, f5⟩ := setCells_frame g news (off + n * i.size) w
      have hin : ∀ j, j < news.length → (w.cell? ⟨g, off + n * i.size + j, none⟩).isSome = true := fun j hj => by rw [Nat.add_assoc]; exact (hr _ (by omega)).1
      refine ⟨_, _, hrun, ⟨by rw [List.length_append, hlo, hl, Nat.add_mul], .inr ⟨g, off, cap, rfl, hb, by rw [shape_setCells]; exact hs, hroom, hc, fun j u hj => ?_, fun j hj => ⟨?_, ?_⟩⟩⟩, ⟨f1, f2, f3, Nat.le_of_eq f4.symm, fun k hk hne => f5 k (fun e => hne (by rw [e]; rfl))⟩, fun k hk => .inl hk, fun A c e1 e2 => by injection e1 with _ _ e3; omega⟩
      · by_cases hj2 : j < n * i.size
        · rw [World.cell?_setCells_out g news _ w ⟨g, off + j, none⟩ (fun _ _ => .inl (by show off + j < off + n * i.size; omega))]
          rw [List.getElem?_append_left (by omega)] at hj
          exact hx j u hj
        · rw [List.getElem?_append_right (by omega), hlo] at hj
          have hlt : j - n * i.size < news.length := by
            rcases Nat.lt_or_ge (j - n * i.size) news.length with h | h
            · exact h
            · rw [List.getElem?_eq_none h] at hj
              cases hj
          have := World.cell?_setCells_in g news (off + n * i.size) w hin (j - n * i.size) hlt
          rw [show off + n * i.size + (j - n * i.size) = off + j by omega] at this
          rw [this]
          rw [List.getElem?_eq_getElem hlt] at hj
          exact hj
      · by_cases hj2 : j < n * i.size ∨ n * i.size + news.length ≤ j
        · rw [World.cell?_setCells_out g news _ w ⟨g, off + j, none⟩ (fun _ _ => by show off + j < off + n * i.size ∨ off + n * i.size + news.length ≤ off + j; omega)]
          exact (hr j hj).1
        · have := World.cell?_setCells_in g news (off + n * i.size) w hin (j - n * i.size) (by omega)
          rw [show off + n * i.size + (j - n * i.size) = off + j by omega] at this
          rw [this]
          rfl
      · rw [World.frozen?_setCells]
        exact (hr j hj).2
    · obtain ⟨v', w', hrun, r1, r2⟩ := run_append_arg_grows (P := P) w t ty e i z size bytes ht hi hz hsize hby hzs hsz ⟨g, off, none⟩ n cap olds hlo (fun j u hj => by rw [Addr.add_lit]; exact hx j u hj) a m c news hl hnews (by omega) h63 hbytes
      have hv := RowV.of_own r1
      refine ⟨v', w', hrun, ?_, ⟨r2.os, r2.tape, r2.output, r2.size, fun k hk _ => r2.block k hk (by simp)⟩, fun k hk => .inr (hv.lt hk).2.1, fun _ _ _ _ => ⟨r2, fun k hk => (hv.lt hk).2.1⟩⟩
      obtain ⟨q1, q2 | ⟨g, off, cap, q3, q4, q5⟩⟩ := hv
      · exact ⟨q1, .inl q2⟩
      · exact ⟨q1, .inr ⟨g, off, cap, q3, Nat.le_trans hbase q4, q5⟩⟩
theorem row_append_step {o : Oper} {a : Act} {K : Act → World → Prop} {Q : Exit → Act → World → Prop} (s x : Operand) (t : TypeId)
    (ho : o.op = .call { callee := .builtin .append, args := #[s, x], argTypes := #[t, t] })
    (e : TypeId) (i : TypeInfo) (z : Value) (size bytes : Nat) (ht : P.underlying t = some (.slice e)) (hi : P.info? e = some i) (hz : i.zero = some z)
    (hsize : i.size = size) (hby : i.bytes = bytes) (hzs : z.cells.size = size) (hsz : 0 < size)
    (base : Nat) (v : Value) (n : Nat) (olds : List Value) (hs : a.eval s = v) (HR : RowV w base e size v n olds)
    (ad : Addr) (m c : Nat) (news : List Value) (hx : a.eval x = .slice (some ad) m c) (hl : news.length = m * size) (hnews : ∀ j u, news[j]? = some u → w.cell? (ad.add j) = some u) (h1 : ∀ u ∈ news, u.oneCell' = true)
    (h63 : n + m ≤ maxLen) (hbytes : (n + m) * bytes ≤ 140737488355328) (hbase : base ≤ w.heap.size)
    (h : ∀ v' w', RowV w' base e size v' (n + m) (olds ++ news) → w.grownBy w' v.ownBlock → (∀ k, v'.ownBlock = some k → v.ownBlock = some k ∨ w.heap.size ≤ k) → (∀ A c, v = .slice A n c → c < n + m → w.grownBy w' none ∧ ∀ k, v'.ownBlock = some k → w.heap.size ≤ k) → K (a.put o.dst v') w') : o.wp P a w K Q := by
  obtain ⟨v', w', hr, h2, h3, h4, h5⟩ := row_append_run (P := P) w t o.type e i z size bytes ht hi hz hsize hby hzs hsz base v n olds HR ad m c news hl hnews h1 h63 hbytes hbase
  unfold Oper.wp execOp
  simp only [ho, resolve, invoke, builtin, Sem.run_bind, Sem.run_pure, Result.andThen_ok, List.map_toArray, List.map_cons, List.map_nil, hs, hx, hr]
  exact h v' w' h2 h3 h4 h5
theorem row_append {ops : Array Oper} {rest : List Oper} {o : Oper} {a : Act} {Q : Exit → Act → World → Prop} (hgd : o.guard = none) (s x : Operand) (t : TypeId)
    (ho : o.op = .call { callee := .builtin .append, args := #[s, x], argTypes := #[t, t] })
    (e : TypeId) (i : TypeInfo) (z : Value) (size bytes : Nat) (ht : P.underlying t = some (.slice e)) (hi : P.info? e = some i) (hz : i.zero = some z)
    (hsize : i.size = size) (hby : i.bytes = bytes) (hzs : z.cells.size = size) (hsz : 0 < size)
    (base : Nat) (v : Value) (n : Nat) (olds : List Value) (hs : a.eval s = v) (HR : RowV w base e size v n olds)
    (ad : Addr) (m c : Nat) (news : List Value) (hx : a.eval x = .slice (some ad) m c) (hl : news.length = m * size) (hnews : ∀ j u, news[j]? = some u → w.cell? (ad.add j) = some u) (h1 : ∀ u ∈ news, u.oneCell' = true)
    (h63 : n + m ≤ maxLen) (hbytes : (n + m) * bytes ≤ 140737488355328) (hbase : base ≤ w.heap.size)
    (h : ∀ v' w', RowV w' base e size v' (n + m) (olds ++ news) → w.grownBy w' v.ownBlock → (∀ k, v'.ownBlock = some k → v.ownBlock = some k ∨ w.heap.size ≤ k) → (∀ A c, v = .slice A n c → c < n + m → w.grownBy w' none ∧ ∀ k, v'.ownBlock = some k → w.heap.size ≤ k) → wpList P ops Q rest (a.put o.dst v') w') : wpList P ops Q (o :: rest) a w :=
  wpList_plain hgd fun _ hK => row_append_step w s x t ho e i z size bytes ht hi hz hsize hby hzs hsz base v n olds hs HR ad m c news hx hl hnews h1 h63 hbytes hbase fun v' w' h2 h3 h4 h5 => hK _ _ (h v' w' h2 h3 h4 h5)
/-- Nothing appended, where there is a row. -/
theorem row_append_none {ops : Array Oper} {rest : List Oper} {o : Oper} {a : Act} {Q : Exit → Act → World → Prop} (hgd : o.guard = none) (s x : Operand) (t : TypeId)
    (ho : o.op = .call { callee := .builtin .append, args := #[s, x], argTypes := #[t, t] })
    (e : TypeId) (i : TypeInfo) (ht : P.underlying t = some (.slice e)) (hi : P.info? e = some i)
    (A B : Option Addr) (n c c2 : Nat) (hs : a.eval s = .slice A n c) (hx : a.eval x = .slice B 0 c2) (hn : n ≤ c)
    (h : wpList P ops Q rest (a.put o.dst (.slice A n c)) w) : wpList P ops Q (o :: rest) a w := by
  refine wpList_plain hgd fun K hK => ?_
  have hr : (Builtin.append_ #[t, t] o.type #[.slice A n c, .slice B 0 c2]).run P w = .ok (.slice A n c) w := by
    have hf : (Builtin.firstCells i.size 0 (.slice B 0 c2)).run P w = .ok #[] w := by
      cases B <;> simp [Builtin.firstCells, loadCells, loadCellsFrom]
    cases A <;> simp [Builtin.append_, run_underlying ht, sizeOf, typeInfo, hi, Builtin.lenOf, hn, hf, storeCells]
  unfold Oper.wp execOp
  simp only [ho, resolve, invoke, builtin, Sem.run_bind, Sem.run_pure, Result.andThen_ok, List.map_toArray, List.map_cons, List.map_nil, hs, hx, hr]
  exact hK _ _ h
end
end Go.Proofs.YtkjjjgplidompaaDoor.B
