/-
  A builder of texts: what is written into it, and what that leaves alone. Walk over the library's WriteString, by the shelf's laws of copyCheck.
-/
import Derived.Test.YteegleldmnokkaaShelf2
import Derived.Test.YteegleldmnokkaaBh
import Derived.Lib.UnsafeStr
namespace Go.Proofs.Yteegleldmnokkaa.B
open Go.RowKit Go.Proofs.YteegleldmnokkaaW.PrintWords Go.Proofs.YteegleldmnokkaaW.PrintLast Go.Proofs.YteegleldmnokkaaW.PrintMore
set_option linter.unusedVariables false
set_option linter.unusedSimpArgs false
/-- What lies in blocks that are no bytes, but the builder's own, is as it was. -/
def KeptB (b : Nat) (w w' : World) : Prop := ∀ (k : Nat) (o : Obj), w.heap[k]? = some o → k ≠ b → (w.shape? k).map (·.1) ≠ some 5 → w'.heap[k]? = some o
theorem KeptB.refl (b : Nat) (w : World) : KeptB b w w := fun _ _ h _ _ => h
theorem bld_check (B b : Nat) (bs : List Value) (w : World) (h : Lib.IsBuilder 46 5 B b bs w) :
    Calls Try.prog 25 #[.pointer (some ⟨b, 0, none⟩)] w fun e w' => e = .returned (.tuple #[]) ∧ Lib.BuilderAt 46 5 B b (.pointer (some ⟨b, 0, none⟩)) bs w' ∧ Below B w w' ∧ KeptB b w w' ∧ w'.heap.size = w.heap.size := by
  rcases h with h | h
  · refine (Go.Proofs.Any.Builder_copyCheck_fresh { Try.lays166 with } Try.builder_extra.toX72 b w h.cell0 h.shape h.frozen0).mono ?_
    rintro e w' ⟨he, rfl⟩
    exact ⟨he, h.used _, (Below.refl B w).setCell (p := ⟨b, 0, none⟩) h.1 _, fun k o hk hne _ => (Below.heap_setCell w ⟨b, 0, none⟩ _ k hne).trans hk, by simp [World.setCell]⟩
  · refine (Go.Proofs.Any.Builder_copyCheck_used { Try.lays166 with } Try.builder_extra.toX72 b w h.cell0).mono ?_
    rintro e w' ⟨he, rfl⟩
    exact ⟨he, h, Below.refl _ _, KeptB.refl _ _, rfl⟩
set_option maxHeartbeats 1000000 in
theorem bld_write (B b : Nat) (bs : List Value) (s : ByteArray) (w : World) (h : Lib.IsBuilder 46 5 B b bs w) (hlen : bs.length + s.size ≤ 140737488355328) (hBw : B ≤ w.heap.size) :
    Calls Try.prog 18 #[.pointer (some ⟨b, 0, none⟩), .string s] w fun e w' => e = .returned (.tuple #[.int .i64 s.size, .nilIface]) ∧ Lib.IsBuilder 46 5 B b (bs ++ Lib.strCells s) w' ∧ Below B w w' ∧ KeptB b w w' := by
  have CC := Aside0.mk (bld_check B b bs w h)
  clear h
  go_enter Try.func18, Try.ntmps18
  go_wp2_with fail
  refine CC.out.mono ?_
  rintro e w1 ⟨rfl, h1, hb1, hk1, hz1⟩
  obtain ⟨hB, v, hbk, hown, hne⟩ := h1
  have c0 := blk_cell hbk 0
  have c1 := blk_cell hbk 1
  simp only [List.getElem?_toArray, List.getElem?_cons_zero, List.getElem?_cons_succ] at c0 c1
  have HB1 := Aside0.mk hb1
  have HK1 := Aside0.mk hk1
  have HBK := Aside0.mk hbk
  have HOW := Aside0.mk hown
  have HNE := Aside0.mk hne
  have HBZ := Aside0.mk (show B ≤ w1.heap.size by omega)
  clear hb1 hk1 hbk hown hne hz1
  go_wp2_with (at_builtin; refine Lib.wpList_append_own_string w1 rfl (.tmp 12) (.tmp 13) 41 9 rfl B 5 Try.t5 Try.underlying41 Try.underlying9 (by kernel_rfl) rfl rfl rfl v bs.length bs (by rfl) HOW.out s (by rfl) (by unfold maxLen; omega) (by omega) HBZ.out ?_; intro v' w2 hown' hgrow _; have hb2 := blk_grown HBK.out hgrow (fun e => HNE.out e.symm); have d0 := blk_cell hb2 0; have d1 := blk_cell hb2 1; have f1 := blk_frozen hb2 1; simp only [List.getElem?_toArray, List.getElem?_cons_zero, List.getElem?_cons_succ] at d0 d1; obtain ⟨ao, n', cap, rfl⟩ : ∃ ao n' cap, v' = .slice ao n' cap := (by rcases hown'.2 with ⟨hv, _⟩ | ⟨g, cap, cur, hv, _⟩ <;> exact ⟨_, _, _, hv⟩); have HO2 := Aside0.mk hown'; have HG2 := Aside0.mk hgrow; have HB2 := Aside0.mk hb2; clear hown' hgrow hb2 c0 c1)
  go_ret2
  refine ⟨rfl, .inr (Lib.BuilderAt.put hB HB2.out (bs' := bs ++ Lib.strCells s) (by simpa [Lib.strCells_length] using HO2.out) (by decide)), (HB1.out.grown HG2.out HBZ.out (fun k hk => (HOW.out.lt k hk).1)).setCell (p := ⟨b, 1, none⟩) hB _, fun k o hk hne hsh => ?_⟩
  refine (Below.heap_setCell w2 ⟨b, 1, none⟩ _ k hne).trans ?_
  have hk1 := HK1.out k o hk hne hsh
  refine (HG2.out.block k (blk_lt hk1) (fun e => ?_)).trans hk1
  rcases HOW.out.2 with ⟨hv, _⟩ | ⟨g, cap, cur, hv, _, hg, _⟩
  · rw [hv] at e
    cases e
  · rw [hv] at e
    obtain rfl : k = g := by injection e
    rw [hg] at hk1
    injection hk1 with hk1
    subst hk1
    exact hsh (by simp [World.shape?, hk])
theorem bld_string (B b : Nat) (l : List UInt8) (w : World) (h : Lib.IsBuilder 46 5 B b (Lib.byteCells l) w) (hBw : B ≤ w.heap.size) :
    Calls Try.prog 20 #[.pointer (some ⟨b, 0, none⟩)] w fun e w' => e = .returned (.string ⟨l.toArray⟩) ∧ Below B w w' :=
  Go.Proofs.Any.Builder_String_any Try.lays169 Try.builder_extra B b l w h hBw
theorem bld_new (w : World) : Lib.IsBuilder 46 5 w.heap.size w.heap.size [] (w.alloc (.cells #[.pointer none, .slice none 0 0] 46)) :=
  .inl ⟨Nat.le_refl _, .slice none 0 0, blk_new w _, World.ownsRow_nil _ _ _ _, by simp [Value.ownBlock]⟩
theorem strCells_bytes (l : List UInt8) (s : ByteArray) : Lib.byteCells l ++ Lib.strCells s = Lib.byteCells (l ++ s.data.toList) := by
  simp [Lib.byteCells, Lib.strCells]
end Go.Proofs.Yteegleldmnokkaa.B
