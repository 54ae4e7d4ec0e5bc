/-
  Messages that are put together: the program's Join. Walk over the program.
-/
import Derived.Test.YteegleldmnokkaaBu
import Derived.Test.YteegleldmnokkaaBi
import Derived.Test.YteegleldmnokkaaRp
namespace Go.Proofs.Yteegleldmnokkaa.B
open Go.RowKit Go.Proofs.YteegleldmnokkaaW.PrintWords Go.Proofs.YteegleldmnokkaaW.PrintLast Go.Proofs.YteegleldmnokkaaW.PrintMore
set_option linter.unusedVariables false
set_option linter.unusedSimpArgs false
/-- Parts, as they lie in memory. -/
def PartsAt (w : World) (A : Option Addr) (l : List P3) : Prop := ∀ i x, l[i]? = some x → ∃ ad : Addr, A = some ad ∧ w.cell? (ad.add (i * 3)) = some (.int .i64 x.1) ∧
  w.cell? ⟨(ad.add (i * 3)).block, (ad.add (i * 3)).off + 1, none⟩ = some (.int .i64 x.2.1) ∧ w.cell? ⟨(ad.add (i * 3)).block, (ad.add (i * 3)).off + 2, none⟩ = some (.string x.2.2)
theorem PartsAt.below {w w' : World} {A : Option Addr} {l : List P3} (h : PartsAt w A l) (hb : Below w.heap.size w w') : PartsAt w' A l := by
  intro i x hx
  obtain ⟨ad, e, h0, h1, h2⟩ := h i x hx
  have hk := hb.block _ (World.block_lt_of_cell? w _ h0)
  have key : ∀ (p : Addr) (v : Value), p.block = (ad.add (i * 3)).block → w.cell? p = some v → w'.cell? p = some v := by
    intro p v hp hc
    rw [World.cell?_of_block (w := w) (by rw [hp]; exact hk)]
    exact hc
  exact ⟨ad, e, key _ _ rfl h0, key _ _ rfl h1, key _ _ rfl h2⟩
/-- What the program counts together: no further, once it is too much. -/
def accJ (l : List P3) : Nat := l.foldl (fun a x => if a ≤ 65536 then a + sizeP x else a) 0
theorem accJ_snoc (l : List P3) (x : P3) : accJ (l ++ [x]) = if accJ l ≤ 65536 then accJ l + sizeP x else accJ l := by unfold accJ; rw [List.foldl_append]; rfl
theorem accJ_is : ∀ (l : List P3) (n : Nat), l.length = n → (accJ l ≤ 65536 → accJ l = total l) ∧ (65536 < accJ l → 65536 < total l) := by
  intro l n
  induction n generalizing l with
  | zero =>
    intro h
    obtain rfl := List.eq_nil_of_length_eq_zero h
    exact ⟨fun _ => rfl, fun h => by simp [accJ] at h⟩
  | succ n ih =>
    intro h
    rcases List.eq_nil_or_concat l with rfl | ⟨l', x, rfl⟩
    · simp at h
    · rw [List.concat_eq_append] at h ⊢
      obtain ⟨h1, h2⟩ := ih l' (by simpa using h)
      rw [accJ_snoc, total_snoc]
      split
      · rename_i hle
        have := h1 hle
        omega
      · rename_i hle
        have := h2 (by omega)
        omega
theorem accJ_le (l : List P3) (hs : ∀ x ∈ l, x.2.2.size ≤ 140737488355328) : accJ l ≤ 140737488420868 := by
  have key : ∀ (m : List P3) (a : Nat), (∀ x ∈ m, x.2.2.size ≤ 140737488355328) → a ≤ 140737488420868 → m.foldl (fun a x => if a ≤ 65536 then a + sizeP x else a) a ≤ 140737488420868 := by
    intro m
    induction m with
    | nil => intro a _ h; exact h
    | cons x m ih =>
      intro a hm ha
      rw [List.foldl_cons]
      refine ih _ (fun y hy => hm y (List.mem_cons_of_mem _ hy)) ?_
      have := hm x List.mem_cons_self
      split
      · unfold sizeP; omega
      · exact ha
  exact key l 0 hs (by omega)
theorem ok_size {x : P3} (h : partOk x = true) : x.2.2.size ≤ 140737488355328 := by have := (partOk_iff x).1 h; omega
def JRel1 (w : World) (l : List P3) (v4 v16 : Value) (wr : World) : Prop := ∃ k : Nat, v16 = .int .i64 k ∧ v4 = .int .i64 (accJ (l.take k) : Nat) ∧ k ≤ l.length ∧ Aside0 (∀ x ∈ l.take k, partOk x = true) ∧ Aside0 (Below w.heap.size w wr)
theorem bld_below {T e : TypeId} {B b : Nat} {bs : List Value} {w w' : World} (h : Lib.IsBuilder T e B b bs w) (hb : Below w.heap.size w w') : Lib.IsBuilder T e B b bs w' := by
  have key : ∀ q, Lib.BuilderAt T e B b q bs w → Lib.BuilderAt T e B b q bs w' := by
    rintro q ⟨hB, v, hbk, hown, hne⟩
    refine ⟨hB, v, (hb.block b (blk_lt hbk)).trans hbk, ?_, hne⟩
    obtain ⟨hl, h | ⟨g, cap, cur, hv, h1, hg, h2⟩⟩ := hown
    · exact ⟨hl, .inl h⟩
    · exact ⟨hl, .inr ⟨g, cap, cur, hv, h1, (hb.block g (blk_lt hg)).trans hg, h2⟩⟩
  exact h.imp (key _) (key _)
theorem bld_lt {T e : TypeId} {B b : Nat} {bs : List Value} {w : World} (h : Lib.IsBuilder T e B b bs w) : b < w.heap.size := h.elim (fun h => h.lt) (fun h => h.lt)
theorem head_nat (s : ByteArray) : ((s.size : Int) / 4) = ((s.size / 4 : Nat) : Int) := by omega
theorem shape_ofB {w : World} {g : Nat} {cs : Array Value} {t : TypeId} {fr : Nat × Nat} (h : w.heap[g]? = some (.cells cs t fr)) : (w.shape? g).map (·.1) = some t := by simp [World.shape?, h]
def JRel2 (wo : World) (l : List P3) (v64 : Value) (wr : World) : Prop := ∃ k : Nat, v64 = .int .i64 k ∧ k ≤ l.length ∧ Aside0 (Lib.IsBuilder 46 5 wo.heap.size wo.heap.size (Lib.byteCells (allBytes (l.take k))) wr) ∧ Aside0 (Below wo.heap.size wo wr)
theorem joinP_bad {l : List P3} {x : P3} (hx : x ∈ l) (h : partOk x = false) : joinP l = (⟨#[]⟩, 1) := by
  unfold joinP
  rw [if_neg (by intro e; rw [e] at hx; cases hx), if_pos]
  intro ha
  rw [List.all_eq_true] at ha
  rw [ha x hx] at h
  cases h
set_option maxHeartbeats 8000000 in
set_option maxRecDepth 100000 in
theorem join_walk (A : Option Addr) (c n : Nat) (l : List P3) (w : World) (hn : n = l.length) (hn0 : 0 < n) (hn1 : n ≤ 9223372036854775807) (hP : PartsAt w A l) (hs : ∀ x ∈ l, x.2.2.size ≤ 9223372036854775807) :
    Calls Try.prog 11 #[.slice A n c] w fun e w' => e = .returned (.tuple #[.string (joinP l).1, .int .i64 (joinP l).2]) ∧ Below w.heap.size w w' := by
  have HP := Aside0.mk hP
  have HS := Aside0.mk hs
  have HN := Aside0.mk hn
  obtain ⟨J1, hJ1⟩ : ∃ J, J = (joinP l).1 := ⟨_, rfl⟩
  obtain ⟨J2, hJ2⟩ : ∃ J, J = (joinP l).2 := ⟨_, rfl⟩
  rw [← hJ1, ← hJ2]
  have HJ1 := Aside0.mk hJ1
  have HJ2 := Aside0.mk hJ2
  have d0 : ((n : Int) == 0) = false := beq_eq_false_iff_ne.2 (by omega)
  clear hP hs hn hJ1 hJ2
  go_enter Try.func11, Try.ntmps11
  go_wp2_with fail
  go_loopw [4, 6, 16] (fun v4 _ v16 wr => JRel1 w l v4 v16 wr) (fun _ _ v _ => n - (intOf v).toNat)
  case atStart => exact ⟨0, rfl, rfl, by omega, ⟨fun x hx => by simp at hx⟩, ⟨Below.refl _ _⟩⟩
  case round =>
    obtain ⟨k, rfl, rfl, hk, hOk, hB⟩ := hrel
    rw [← HN.out] at hk
    by_cases hlt : k < n
    · obtain ⟨⟨x1, x2, x3⟩, hx⟩ : ∃ x, l[k]? = some x := ⟨l[k]'(by rw [← HN.out]; exact hlt), List.getElem?_eq_getElem (by rw [← HN.out]; exact hlt)⟩
      obtain ⟨ad, hA, t0, t1, t2⟩ := (HP.out.below hB.out) k _ hx
      dsimp only at t0 t1 t2
      subst hA
      have hmem : (x1, x2, x3) ∈ l := List.mem_of_getElem? hx
      have hsz := HS.out _ hmem
      dsimp only at hsz
      have hac := accJ_le (l.take k) (fun x hx => ok_size (hOk.out x hx))
      have htk : l.take (k + 1) = l.take k ++ [(x1, x2, x3)] := by rw [List.take_add_one, hx]; rfl
      have hsn := accJ_snoc (l.take k) (x1, x2, x3)
      rw [← htk] at hsn
      have HX := Aside0.mk hx
      have HTK := Aside0.mk htk
      have HM := Aside0.mk hmem
      have HBa := Aside0.mk (hB.out.alloc (o := .cells #[.int .i64 x1, .int .i64 x2, .string x3] 40) hB.out.size)
      obtain ⟨a, ha⟩ : ∃ a, a = accJ (l.take k) := ⟨_, rfl⟩
      rw [← ha] at hac hsn ⊢
      have HSN := Aside0.mk hsn
      have HA := Aside0.mk ha
      have i0 : (0 : Int) ≤ (k : Int) := by omega
      have i1 : (k : Int) < (n : Int) := by omega
      clear hx htk hmem hsn ha
      cases hok : partOk (x1, x2, x3)
      · have hno : ¬ (0 ≤ x1 ∧ x1 ≤ 31 ∧ 192 ≤ x2 ∧ x2 ≤ 223 ∧ x3.size % 4 = 0 ∧ x3.size ≤ 262140) := by
          intro h
          have := (partOk_iff (x1, x2, x3)).2 h
          rw [this] at hok
          cases hok
        have HJB := Aside0.mk (joinP_bad HM.out hok)
        clear hok
        go_wp2_with fail
        all_goals first | (exfalso; omega) | skip
        all_goals go_ret2
        all_goals exact ⟨by rw [HJ1.out, HJ2.out, HJB.out]; rfl, HBa.out⟩
      · have hyes := (partOk_iff (x1, x2, x3)).1 hok
        dsimp only at hyes
        obtain ⟨y0, y1, y2, y3, y4, y5⟩ := hyes
        have HOKX := Aside0.mk hok
        have z3 : ((x3.size : Int) % 4) = 0 := by omega
        clear hok
        by_cases ha5 : a ≤ 65536
        · have q5 : decide ((a : Int) ≤ 65536) = true := decide_eq_true (by omega)
          have q5' : decide (a ≤ 65536) = true := decide_eq_true ha5
          go_wp2_with fail
          refine ⟨⟨k + 1, by simp, by rw [HSN.out, if_pos ha5]; simp [sizeP], by rw [← HN.out]; omega, ⟨fun x hx => ?_⟩, HBa⟩, by simp [intOf]; omega⟩
          rw [HTK.out] at hx
          rcases List.mem_append.1 hx with h | h
          · exact hOk.out x h
          · rw [List.mem_singleton.1 h]; exact HOKX.out
        · have q5 : decide ((a : Int) ≤ 65536) = false := decide_eq_false (by omega)
          have q5' : decide (a ≤ 65536) = false := decide_eq_false ha5
          go_wp2_with fail
          refine ⟨⟨k + 1, by simp, by rw [HSN.out, if_neg ha5], by rw [← HN.out]; omega, ⟨fun x hx => ?_⟩, HBa⟩, by simp [intOf]; omega⟩
          rw [HTK.out] at hx
          rcases List.mem_append.1 hx with h | h
          · exact hOk.out x h
          · rw [List.mem_singleton.1 h]; exact HOKX.out
    · have hkn : k = l.length := by rw [← HN.out]; omega
      have hta : l.take k = l := by rw [hkn, List.take_length]
      rw [hta] at hOk ⊢
      obtain ⟨hac1, hac2⟩ := accJ_is l _ rfl
      have hacl := accJ_le l (fun x hx => ok_size (hOk.out x hx))
      have hne : l ≠ [] := by intro e; have := HN.out; rw [e] at this; simp at this; omega
      have hall : l.all partOk = true := List.all_eq_true.2 hOk.out
      obtain ⟨a, ha⟩ : ∃ a, a = accJ l := ⟨_, rfl⟩
      rw [← ha] at hac1 hac2 hacl ⊢
      have hkn2 : k = n := by rw [hkn, HN.out]
      subst hkn2
      clear hlt hkn hta
      by_cases hbig : 65536 < a
      · have q1 : decide (65536 < (a : Int)) = true := decide_eq_true (by omega)
        have q1' : decide (65536 < a) = true := decide_eq_true hbig
        have hJ : joinP l = (⟨#[]⟩, 2) := by
          unfold joinP
          rw [if_neg hne, if_neg (by rw [hall]; simp), if_pos (hac2 hbig)]
        have HJB := Aside0.mk hJ
        clear hJ hall hne ha hac1 hac2
        go_wp2_with fail
        go_ret2
        exact ⟨by rw [HJ1.out, HJ2.out, HJB.out]; rfl, hB.out⟩
      · have q1 : decide (65536 < (a : Int)) = false := decide_eq_false (by omega)
        have q1' : decide (65536 < a) = false := decide_eq_false hbig
        have htot : total l ≤ 65536 := by have := hac1 (by omega); omega
        have hJ : joinP l = (⟨(allBytes l).toArray⟩, 0) := by
          unfold joinP
          rw [if_neg hne, if_neg (by rw [hall]; simp), if_neg (by omega)]
        have HJB := Aside0.mk hJ
        clear hJ hall hne ha hac1 hac2
        obtain ⟨wo, rfl⟩ : ∃ wo : World, wo = wr := ⟨_, rfl⟩
        have hsz0 := hB.out.size
        go_wp2_with fail
        go_loopw [9, 10, 64] (fun _ _ v64 wr => JRel2 wo l v64 wr) (fun _ _ v _ => k - (intOf v).toNat)
        case atStart => exact ⟨0, rfl, by omega, ⟨bld_new wo⟩, ⟨(Below.refl _ _).alloc (Nat.le_refl _) _⟩⟩
        case round =>
          obtain ⟨j, rfl, hj, hBu, hBj⟩ := hrel
          rw [← HN.out] at hj
          by_cases hlt2 : j < k
          · obtain ⟨⟨x1, x2, x3⟩, hx⟩ : ∃ x, l[j]? = some x := ⟨l[j]'(by rw [← HN.out]; exact hlt2), List.getElem?_eq_getElem (by rw [← HN.out]; exact hlt2)⟩
            have hBw : Below w.heap.size w wr := hB.out.trans (hBj.out.mono hsz0)
            obtain ⟨ad, hA, t0, t1, t2⟩ := (HP.out.below hBw) j _ hx
            dsimp only at t0 t1 t2
            subst hA
            have hok := (partOk_iff (x1, x2, x3)).1 (hOk.out _ (List.mem_of_getElem? hx))
            dsimp only at hok
            obtain ⟨y0, y1, y2, y3, y4, y5⟩ := hok
            obtain ⟨c1, rfl⟩ := Int.eq_ofNat_of_zero_le y0
            obtain ⟨c2, rfl⟩ := Int.eq_ofNat_of_zero_le (show 0 ≤ x2 by omega)
            have HX := Aside0.mk hx
            have i0 : (0 : Int) ≤ (j : Int) := by omega
            have i1 : (j : Int) < (k : Int) := by omega
            clear hx
            go_wp2_with fail
            have HBu0 := Aside0.mk (bld_below hBu.out ((Below.refl _ _).alloc (Nat.le_refl _) (.cells #[.int .i64 (c1 : Int), .int .i64 (c2 : Int), .string x3] 40)))
            have HE0 : Aside0 ((wr.alloc (.cells #[.int .i64 (c1 : Int), .int .i64 (c2 : Int), .string x3] 40)).heap[wr.heap.size]? = some (.cells #[.int .i64 (c1 : Int), .int .i64 (c2 : Int), .string x3] 40 (0, 0))) := ⟨blk_new wr _⟩
            have HBj0 := Aside0.mk (hBj.out.alloc (o := .cells #[.int .i64 (c1 : Int), .int .i64 (c2 : Int), .string x3] 40) hBj.out.size)
            obtain ⟨bx, hbx⟩ : ∃ bx, bx = wr.heap.size := ⟨_, rfl⟩
            have hbb := bld_lt hBu.out
            rw [← hbx] at HE0 hbb ⊢
            clear hbx t0 t1 t2
            generalize wr.alloc (.cells #[.int .i64 (c1 : Int), .int .i64 (c2 : Int), .string x3] 40) = W0 at *
            have hbx0 := blk_lt HE0.out
            refine (write_any W0).mono ?_
            rintro e w1 ⟨rfl, hW1, hb1⟩
            obtain ⟨p, hp⟩ : ∃ p, p = W0.heap.size := ⟨_, rfl⟩
            rw [← hp] at hW1 hb1 hbx0 ⊢
            have HPP := Aside0.mk hp
            have HE1 := Aside0.mk ((hb1.block bx hbx0).trans HE0.out)
            have HB1 := Aside0.mk hb1
            have HW1 := Aside0.mk hW1
            clear hp hW1 hb1
            have u0 := blk_cell HE1.out 0
            have u1 := blk_cell HE1.out 1
            have u2 := blk_cell HE1.out 2
            simp only [List.getElem?_toArray, List.getElem?_cons_zero, List.getElem?_cons_succ] at u0 u1 u2
            go_wp2_with fail
            refine (put_any w1 p [] 2 2 HW1.out (by omega) (by omega) (by simp [toBits_length])).mono ?_
            rintro e w2 ⟨rfl, hW2, hb2⟩
            have HE2 := Aside0.mk ((hb2.block bx hbx0).trans HE1.out)
            have HB2 := Aside0.mk (HB1.out.trans hb2)
            have HW2 := Aside0.mk hW2
            clear hW2 hb2 u0 u1 u2
            have u0 := blk_cell HE2.out 0
            have u1 := blk_cell HE2.out 1
            have u2 := blk_cell HE2.out 2
            simp only [List.getElem?_toArray, List.getElem?_cons_zero, List.getElem?_cons_succ] at u0 u1 u2
            go_wp2_with fail
            refine (put_any w2 p ([] ++ toBits 2 2) 0 1 HW2.out (by omega) (by omega) (by simp [toBits_length])).mono ?_
            rintro e w3 ⟨rfl, hW2, hb2⟩
            have HE3 := Aside0.mk ((hb2.block bx hbx0).trans HE2.out)
            have HB3 := Aside0.mk (HB2.out.trans hb2)
            have HW3 := Aside0.mk hW2
            clear hW2 hb2 u0 u1 u2
            have u0 := blk_cell HE3.out 0
            have u1 := blk_cell HE3.out 1
            have u2 := blk_cell HE3.out 2
            simp only [List.getElem?_toArray, List.getElem?_cons_zero, List.getElem?_cons_succ] at u0 u1 u2
            go_wp2_with fail
            refine (put_any w3 p (([] ++ toBits 2 2) ++ toBits 1 0) c1 5 HW3.out (by omega) (by omega) (by simp [toBits_length])).mono ?_
            rintro e w4 ⟨rfl, hW2, hb2⟩
            have HE4 := Aside0.mk ((hb2.block bx hbx0).trans HE3.out)
            have HB4 := Aside0.mk (HB3.out.trans hb2)
            have HW4 := Aside0.mk hW2
            clear hW2 hb2 u0 u1 u2
            have u0 := blk_cell HE4.out 0
            have u1 := blk_cell HE4.out 1
            have u2 := blk_cell HE4.out 2
            simp only [List.getElem?_toArray, List.getElem?_cons_zero, List.getElem?_cons_succ] at u0 u1 u2
            go_wp2_with fail
            refine (put_any w4 p ((([] ++ toBits 2 2) ++ toBits 1 0) ++ toBits 5 c1) c2 8 HW4.out (by omega) (by omega) (by simp [toBits_length])).mono ?_
            rintro e w5 ⟨rfl, hW2, hb2⟩
            have HE5 := Aside0.mk ((hb2.block bx hbx0).trans HE4.out)
            have HB5 := Aside0.mk (HB4.out.trans hb2)
            have HW5 := Aside0.mk hW2
            clear hW2 hb2 u0 u1 u2
            have u0 := blk_cell HE5.out 0
            have u1 := blk_cell HE5.out 1
            have u2 := blk_cell HE5.out 2
            simp only [List.getElem?_toArray, List.getElem?_cons_zero, List.getElem?_cons_succ] at u0 u1 u2
            go_wp2_with fail
            rw [head_nat]
            refine (put_any w5 p (((([] ++ toBits 2 2) ++ toBits 1 0) ++ toBits 5 c1) ++ toBits 8 c2) (x3.size / 4) 16 HW5.out (by omega) (by omega) (by simp [toBits_length])).mono ?_
            rintro e w6 ⟨rfl, hW2, hb2⟩
            have HE6 := Aside0.mk ((hb2.block bx hbx0).trans HE5.out)
            have HB6 := Aside0.mk (HB5.out.trans hb2)
            have HW6 := Aside0.mk hW2
            clear hW2 hb2 u0 u1 u2
            have u2 := blk_cell HE6.out 2
            simp only [List.getElem?_toArray, List.getElem?_cons_zero, List.getElem?_cons_succ] at u2
            go_wp2_with fail
            refine (text_any w6 p _ HW6.out).mono ?_
            rintro e wx ⟨rfl, hwx⟩
            obtain rfl := hwx.symm
            have hTX := head_text c1 c2 (x3.size / 4) (by omega) (by omega) (by omega)
            obtain ⟨TX, hTXe⟩ : ∃ TX, TX = strOfNums (packI ((((([] ++ toBits 2 2) ++ toBits 1 0) ++ toBits 5 c1) ++ toBits 8 c2) ++ toBits 16 (x3.size / 4))) := ⟨_, rfl⟩
            rw [← hTXe] at hTX ⊢
            have HTX := Aside0.mk hTX
            have hTXs : TX.size = 4 := by
              have := congrArg List.length hTX
              simpa using this
            clear hTX hTXe
            have hbl : (Lib.byteCells (allBytes (l.take j))).length ≤ 65536 := by
              rw [Lib.byteCells_length, allBytes_length]
              have := total_take l j
              omega
            have HBu6 := Aside0.mk (bld_below HBu0.out (by rw [← HPP.out]; exact HB6.out))
            have hz6 : wo.heap.size ≤ w6.heap.size := by have := HB6.out.size; have := HBj0.out.size; have := HPP.out; omega
            go_wp2_with fail
            refine (bld_write wo.heap.size wo.heap.size _ TX w6 HBu6.out (by omega) hz6).mono ?_
            rintro e w7 ⟨rfl, hBu7, hb7, hk7⟩
            have hE7 := hk7 bx _ HE6.out (by omega) (by rw [shape_ofB HE6.out]; decide)
            have u2 := blk_cell hE7 2
            simp only [List.getElem?_toArray, List.getElem?_cons_zero, List.getElem?_cons_succ] at u2
            have HBu7 := Aside0.mk hBu7
            have HB7 := Aside0.mk hb7
            clear hBu7 hb7 hk7 hE7
            go_wp2_with fail
            refine (bld_write wo.heap.size wo.heap.size _ x3 w7 HBu7.out (by rw [List.length_append, Lib.strCells_length]; omega) (Nat.le_trans hz6 HB7.out.size)).mono ?_
            rintro e w8 ⟨rfl, hBu8, hb8, hk8⟩
            have HBu8 := Aside0.mk hBu8
            have HB8 := Aside0.mk hb8
            clear hBu8 hb8 hk8 u2
            go_wp2_with fail
            have hBf : Below wo.heap.size wo w8 := ((HBj0.out.trans (HB6.out.mono (by have := HPP.out; have := HBj0.out.size; omega))).trans HB7.out).trans HB8.out
            refine ⟨⟨j + 1, by simp, by rw [← HN.out]; omega, ⟨?_⟩, ⟨hBf⟩⟩, by simp [intOf]; omega⟩
            have h := HBu8.out
            rw [strCells_bytes, strCells_bytes, HTX.out] at h
            have e : allBytes (l.take (j + 1)) = allBytes (l.take j) ++ [UInt8.ofNat (128 + c1), UInt8.ofNat c2, UInt8.ofNat (x3.size / 4 / 256), UInt8.ofNat (x3.size / 4 % 256)] ++ x3.data.toList := by
              rw [List.take_add_one, HX.out]
              show allBytes (l.take j ++ [((c1 : Int), (c2 : Int), x3)]) = _
              rw [allBytes_snoc, List.append_assoc]
              rfl
            rw [e]
            exact h
          · have hjl : l.take j = l := by rw [List.take_of_length_le]; rw [← HN.out]; omega
            rw [hjl] at hBu
            have hsz2 := hBj.out.size
            have q2 : decide ((j : Int) < (k : Int)) = false := decide_eq_false (by omega)
            go_wp2_with fail
            refine (bld_string wo.heap.size wo.heap.size _ wr hBu.out hsz2).mono ?_
            rintro e w9 ⟨rfl, hb9⟩
            have HB9 := Aside0.mk hb9
            clear hb9
            go_wp2_with fail
            go_ret2
            refine ⟨by rw [HJ1.out, HJ2.out, HJB.out]; rfl, hB.out.trans ((hBj.out.trans HB9.out).mono hsz0)⟩
theorem join_any (A : Option Addr) (c : Nat) (l : List P3) (w : World) (hn1 : l.length ≤ 9223372036854775807) (hP : PartsAt w A l) (hs : ∀ x ∈ l, x.2.2.size ≤ 9223372036854775807) :
    Calls Try.prog 11 #[.slice A l.length c] w fun e w' => e = .returned (.tuple #[.string (joinP l).1, .int .i64 (joinP l).2]) ∧ Below w.heap.size w w' := by
  by_cases h0 : 0 < l.length
  · exact join_walk A c l.length l w rfl h0 hn1 hP hs
  · obtain rfl : l = [] := List.eq_nil_of_length_eq_zero (by omega)
    clear hP hs hn1 h0
    go_enter Try.func11, Try.ntmps11
    go_wp2_with fail
    all_goals go_ret2
    all_goals exact ⟨rfl, Below.refl _ _⟩
end Go.Proofs.Yteegleldmnokkaa.B
