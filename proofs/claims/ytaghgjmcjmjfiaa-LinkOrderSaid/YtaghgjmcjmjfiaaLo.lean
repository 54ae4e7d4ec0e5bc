/-
  The way with one queue: what is at the far end. Walk over the program.
-/
import Derived.Test.YtaghgjmcjmjfiaaLq
namespace Go.Proofs.Ytaghgjmcjmjfiaa.B
open Go.RowKit Go.Proofs.YtaghgjmcjmjfiaaW.PrintWords Go.Proofs.YtaghgjmcjmjfiaaW.PrintLast Go.Proofs.YtaghgjmcjmjfiaaW.PrintMore
set_option linter.unusedVariables false
set_option linter.unusedSimpArgs false
abbrev Cmt := Int × Int × Int
def cmD : Kd Cmt := Kd.pair (Kd.int .i64) (Kd.pair (Kd.int .i64) (Kd.int .i64))
/-- The way, as far as its queue is only read. -/
def WyRd (w : World) (g : Nat) (y : Wy) (A : Option Addr) (c : Nat) : Prop :=
  WyAt w g y (.slice A y.q.length c) ∧ y.q.length ≤ c ∧ pkD.C w A y.q.length y.q ∧ ∀ a, A = some a → 0 < y.q.length → a.block ≠ g
def lkOut (d s t : Int) : List Pkt → List Cmt × List Pkt
  | [] => ([], [])
  | p :: r => if wrap64 (p.2.2.2.1 + d) ≤ t then (if p.2.2.2.2 = true then (lkOut d s t r).1 else (p.1, p.2.1, wrap64 (wrap64 (p.2.2.2.1 + d) + s)) :: (lkOut d s t r).1, (lkOut d s t r).2) else ([], p :: r)
theorem drop_some {q : List Pkt} {k : Nat} {p : Pkt} (h : q[k]? = some p) : q.drop k = p :: q.drop (k + 1) := by
  obtain ⟨hk, rfl⟩ := List.getElem?_eq_some_iff.1 h
  exact List.drop_eq_getElem_cons hk
theorem lk_stop {d s t : Int} {p : Pkt} {r : List Pkt} (h : ¬ wrap64 (p.2.2.2.1 + d) ≤ t) : lkOut d s t (p :: r) = ([], p :: r) := by rw [lkOut, if_neg h]
theorem lk_lost {d s t : Int} {p : Pkt} {r : List Pkt} (h : wrap64 (p.2.2.2.1 + d) ≤ t) (hl : p.2.2.2.2 = true) : lkOut d s t (p :: r) = lkOut d s t r := by rw [lkOut, if_pos h, if_pos hl]
theorem lk_came {d s t : Int} {p : Pkt} {r : List Pkt} (h : wrap64 (p.2.2.2.1 + d) ≤ t) (hl : p.2.2.2.2 = false) : lkOut d s t (p :: r) = ((p.1, p.2.1, wrap64 (wrap64 (p.2.2.2.1 + d) + s)) :: (lkOut d s t r).1, (lkOut d s t r).2) := by rw [lkOut, if_pos h, hl]; rfl
theorem cm_M (w : World) (base : Nat) (ok : Nat → Prop) (a b c : Int) : cmD.M w base ok (a, b, c) [.int .i64 a, .int .i64 b, .int .i64 c] := ⟨[_], _, rfl, rfl, [_], _, rfl, rfl, rfl⟩
theorem pk_move {w w' : World} {A : Option Addr} {n : Nat} {q : List Pkt} (h : pkD.C w A n q) (hm : ∀ a, A = some a → 0 < n → w'.heap[a.block]? = w.heap[a.block]?) : pkD.C w' A n q := by
  refine ⟨h.1, h.2.1, fun hp => ?_⟩
  obtain ⟨ad, e, hc⟩ := h.2.2 hp
  refine ⟨ad, e, fun j p hj => ?_⟩
  obtain ⟨c, h1, h2, h3⟩ := hc j p hj
  refine ⟨c, h1, h2, fun i u hu => ?_⟩
  have hb : (ad.add (j * pkD.sz + i)).block = ad.block := by unfold Addr.add; split <;> rfl
  rw [World.cell?_of_block (w := w) (by rw [hb]; exact hm ad e hp)]
  exact h3 i u hu
theorem cm_ne : ∀ q, q ∈ 37 :: cmD.E → q ≠ 51 := by
  intro q hq
  have : q = 37 := by simpa [cmD, Kd.pair, Kd.int, Kd.scalar] using hq
  subst this
  decide
def OutQ (g : Nat) (y : Wy) (t : Int) (w : World) (e : Ending) (w' : World) : Prop :=
  ∃ (vo : Value) (A' : Option Addr) (c' : Nat), e = .returned vo ∧ cmD.R 37 w' w.heap.size (fun _ => True) vo (lkOut y.delay y.skew t y.q).1 ∧ WyRd w' g { y with q := (lkOut y.delay y.skew t y.q).2 } A' c' ∧ Touch (fun k => k = g) w w'
theorem out_end (g : Nat) (y : Wy) (A A5 : Option Addr) (c c5 k : Nat) (t : Int) (os : List Cmt) (w wz : World) (u : Value) (HA : WyAt w g y (.slice A y.q.length c)) (HC : pkD.C w A y.q.length y.q) (HG : ∀ a, A = some a → 0 < y.q.length → a.block ≠ g) (hk : k ≤ y.q.length) (HB : Below w.heap.size w wz) (HR : cmD.R 37 wz w.heap.size (fun _ => True) (.slice A5 os.length c5) os) (hL : lkOut y.delay y.skew t y.q = (os, y.q.drop k)) (hu : u = (.slice (if y.q.length = k then A else A.map (fun x => x.add (k * 5))) (y.q.length - k) (y.q.length - k))) :
    OutQ g y t w (.returned (.slice A5 os.length c5)) (wz.setCell ⟨g, 7, none⟩ u).drew := by
  subst hu
  unfold OutQ
  rw [hL]
  have Hz := (HB.block g (blk_lt HA)).trans HA
  have hlen : (y.q.drop k).length = y.q.length - k := List.length_drop
  refine ⟨_, (if y.q.length = k then A else A.map (fun x => x.add (k * 5))), y.q.length - k, rfl, Kd.R_drew (Kd.R_set HR Hz cm_ne 7 _), ⟨?_, ?_, ?_, ?_⟩, ((Touch.of_below (S := fun k => k = g) HB).setCell (p := ⟨g, 7, none⟩) (.inl rfl) _).drew⟩
  · unfold WyAt
    dsimp only
    rw [hlen]
    exact (blk_set Hz 7 _).trans (by simp)
  · dsimp only
    rw [hlen]
    exact Nat.le_refl _
  · have h1 := Kd.C_drop (c := y.q.length) HC hk (Nat.le_refl _)
    refine pk_move (w := w) h1 (fun a ha hp => ?_)
    rw [hlen] at hp
    rw [if_neg (by omega)] at ha
    obtain ⟨ad, rfl⟩ : ∃ ad, A = some ad := by cases A with | none => simp at ha | some x => exact ⟨x, rfl⟩
    have hb : a.block = ad.block := by simp at ha; rw [← ha]; unfold Addr.add; split <;> rfl
    rw [hb]
    have hne := HG ad rfl (by omega)
    have hlt : ad.block < w.heap.size := by
      obtain ⟨p, hp0⟩ : ∃ p, y.q[0]? = some p := ⟨y.q[0]'(by omega), List.getElem?_eq_getElem (by omega)⟩
      obtain ⟨ad2, _, _, _, _, _, e, _, g0, _⟩ := pk_at HC 0 (by omega)
      injection e with e
      subst e
      have := World.block_lt_of_cell? w _ g0
      simpa [Addr.add] using this
    exact (Below.heap_setCell wz _ _ _ hne).trans (HB.block _ hlt)
  · intro a ha hp
    dsimp only at hp
    rw [hlen] at hp
    rw [if_neg (by omega)] at ha
    obtain ⟨ad, rfl⟩ : ∃ ad, A = some ad := by cases A with | none => simp at ha | some x => exact ⟨x, rfl⟩
    have hb : a.block = ad.block := by simp at ha; rw [← ha]; unfold Addr.add; split <;> rfl
    rw [hb]
    exact HG ad rfl (by omega)
def OutRel (g : Nat) (q : List Pkt) (n : Nat) (d s t : Int) (w : World) (v5 v6 : Value) (wr : World) : Prop :=
  ∃ (k : Nat) (A5 : Option Addr) (c5 : Nat) (os : List Cmt), v5 = .slice A5 os.length c5 ∧ v6 = .int .i64 (k : Int) ∧ k ≤ n ∧ os.length ≤ k ∧ Aside0 (cmD.R 37 wr w.heap.size (fun _ => True) (.slice A5 os.length c5) os) ∧ Aside0 (Below w.heap.size w wr) ∧
    Aside0 (lkOut d s t q = (os ++ (lkOut d s t (q.drop k)).1, (lkOut d s t (q.drop k)).2))
set_option maxHeartbeats 4000000 in
theorem out_any (g : Nat) (y : Wy) (A : Option Addr) (c : Nat) (t : Int) (w : World) (hW : WyRd w g y A c) (hq : y.q.length ≤ 4096) : Calls Try.prog 12 #[.pointer (some ⟨g, 0, none⟩), .int .i64 t] w (OutQ g y t w) := by
  obtain ⟨rate, delay, lose, skew, last, free, count, q⟩ := y
  obtain ⟨hA, hc, hC, hg⟩ := hW
  unfold WyAt at hA
  dsimp only at hA hc hC hg hq
  have h1 := blk_cell hA 1
  have h3 := blk_cell hA 3
  have h7 := blk_cell hA 7
  simp only [List.getElem?_toArray, List.getElem?_cons_zero, List.getElem?_cons_succ] at h1 h3 h7
  have HA := Aside0.mk hA
  have HC := Aside0.mk hC
  have HG := Aside0.mk hg
  obtain ⟨n, hn⟩ : ∃ n, n = q.length := ⟨_, rfl⟩
  rw [← hn] at h7 HC hq hc
  have HN := Aside0.mk hn
  clear hA hC hn hg
  go_enter Try.func12, Try.ntmps12
  go_wp2_with fail
  go_loopw [5, 6] (fun v5 v6 wr => OutRel g q n delay skew t w v5 v6 wr) (fun _ v _ => n - (intOf v).toNat)
  case atStart => exact ⟨0, none, 0, [], rfl, rfl, by omega, by simp, ⟨Kd.R_nil _ _ _ _ _⟩, ⟨Below.refl _ _⟩, ⟨by simp⟩⟩
  case round =>
    obtain ⟨k, A5, c5, os, rfl, rfl, hk, hos, hR, hB, hL⟩ := hrel
    have hgw := blk_lt HA.out
    have hcell : ∀ (p : Addr) (v : Value), p.block < w.heap.size → w.cell? p = some v → wr.cell? p = some v := by
      intro p v hp hc
      rw [World.cell?_of_block (w := w) (hB.out.block _ hp)]
      exact hc
    have r1 := hcell _ _ hgw h1
    have r3 := hcell _ _ hgw h3
    have r7 := hcell _ _ hgw h7
    by_cases hlt : k < n
    · obtain ⟨ad, a, b, c2, d, l, rfl, hp, g0, g1, g2, g3, g4⟩ := pk_at HC.out k hlt
      have hadb : (ad.add (k * 5)).block < w.heap.size := World.block_lt_of_cell? w _ g0
      have t0 := hcell _ _ hadb g0
      have t1 := hcell ⟨(ad.add (k * 5)).block, (ad.add (k * 5)).off + 1, none⟩ _ hadb (by rw [← add_field5 _ _ 1 (by omega)]; exact g1)
      have t2 := hcell ⟨(ad.add (k * 5)).block, (ad.add (k * 5)).off + 2, none⟩ _ hadb (by rw [← add_field5 _ _ 2 (by omega)]; exact g2)
      have t3 := hcell ⟨(ad.add (k * 5)).block, (ad.add (k * 5)).off + 3, none⟩ _ hadb (by rw [← add_field5 _ _ 3 (by omega)]; exact g3)
      have t4 := hcell ⟨(ad.add (k * 5)).block, (ad.add (k * 5)).off + 4, none⟩ _ hadb (by rw [← add_field5 _ _ 4 (by omega)]; exact g4)
      clear g0 g1 g2 g3 g4 hcell h1 h3 h7
      have k1 : decide ((k : Int) < (n : Int)) = true := by simp; omega
      go_wp2_with fail
      go_quiet (fail)
      have HBz : Aside0 (Below w.heap.size w (wr.drewN nq)) := ⟨hB.out.trans ((pw_below_drewN (Below.refl _ _) nq).mono hB.out.size)⟩
      have HRz : Aside0 (cmD.R 37 (wr.drewN nq) w.heap.size (fun _ => True) (.slice A5 os.length c5) os) := ⟨Kd.R_drewN hR.out nq⟩
      have z1 : (wr.drewN nq).cell? ⟨g, 1, none⟩ = some (.int .i64 delay) := r1
      have z3 : (wr.drewN nq).cell? ⟨g, 3, none⟩ = some (.int .i64 skew) := r3
      have z7 : (wr.drewN nq).cell? ⟨g, 7, none⟩ = some (.slice (some ad) n c) := r7
      have s0 : (wr.drewN nq).cell? (ad.add (k * 5)) = some (.int .i64 a) := t0
      have s1 : (wr.drewN nq).cell? ⟨(ad.add (k * 5)).block, (ad.add (k * 5)).off + 1, none⟩ = some (.int .i64 b) := t1
      have s2 : (wr.drewN nq).cell? ⟨(ad.add (k * 5)).block, (ad.add (k * 5)).off + 2, none⟩ = some (.int .i64 c2) := t2
      have s3 : (wr.drewN nq).cell? ⟨(ad.add (k * 5)).block, (ad.add (k * 5)).off + 3, none⟩ = some (.int .i64 d) := t3
      have s4 : (wr.drewN nq).cell? ⟨(ad.add (k * 5)).block, (ad.add (k * 5)).off + 4, none⟩ = some (.bool l) := t4
      generalize wr.drewN nq = wz at *
      clear t0 t1 t2 t3 t4 r1 r3 r7 hR hB
      have Hz : Aside0 (wz.heap[g]? = some (.cells #[.int .i64 rate, .int .i64 delay, .int .i64 lose, .int .i64 skew, .int .i64 last, .int .i64 free, .int .i64 count, .slice (some ad) q.length c] 51 (0, 0))) := ⟨(HBz.out.block g hgw).trans HA.out⟩
      have zf := blk_frozen Hz.out 7
      by_cases hr : wrap64 (d + delay) ≤ t
      · have k2 : decide (wrap64 (d + delay) ≤ t) = true := by simp [hr]
        cases l with
        | true =>
          go_wp2_with fail
          refine ⟨⟨k + 1, A5, c5, os, rfl, by simp, by omega, by omega, ⟨Kd.R_alloc HRz.out _⟩, ⟨HBz.out.alloc HBz.out.size _⟩, ⟨?_⟩⟩, by simp [intOf]; omega⟩
          rw [hL.out, drop_some hp, lk_lost hr rfl]
        | false =>
          go_wp2_with fail
          have E0 := blk_new wz (.cells #[.int .i64 a, .int .i64 b, .int .i64 c2, .int .i64 d, .bool false] 53)
          have x0 := blk_cell E0 0
          have x1 := blk_cell E0 1
          have x3 := blk_cell E0 3
          have HB9 : Aside0 (Below w.heap.size w (wz.alloc (.cells #[.int .i64 a, .int .i64 b, .int .i64 c2, .int .i64 d, .bool false] 53))) := ⟨HBz.out.alloc HBz.out.size _⟩
          have HR9 : Aside0 (cmD.R 37 (wz.alloc (.cells #[.int .i64 a, .int .i64 b, .int .i64 c2, .int .i64 d, .bool false] 53)) w.heap.size (fun _ => True) (.slice A5 os.length c5) os) := ⟨Kd.R_alloc HRz.out _⟩
          have H9 := (HB9.out.block g hgw).trans HA.out
          have y1 := blk_cell H9 1
          have y3 := blk_cell H9 3
          simp only [List.getElem?_toArray, List.getElem?_cons_zero, List.getElem?_cons_succ] at x0 x1 x3 y1 y3
          have hl : (os.length + 1) * 24 ≤ 140737488355328 := by omega
          obtain ⟨pb, hpb⟩ : ∃ pb, pb = wz.heap.size := ⟨_, rfl⟩
          rw [← hpb] at x0 x1 x3 ⊢
          clear E0 H9 s0 s1 s2 s3 s4 z1 z3 z7 Hz zf hpb HRz HBz
          generalize wz.alloc (.cells #[.int .i64 a, .int .i64 b, .int .i64 c2, .int .i64 d, .bool false] 53) = w9 at *
          refine start_ (n := 23) (S := fun w' => w'.cell? ⟨pb, 0, none⟩ = some (.int .i64 a) ∧ w'.cell? ⟨pb, 1, none⟩ = some (.int .i64 b) ∧ w'.cell? ⟨pb, 3, none⟩ = some (.int .i64 d) ∧ w'.cell? ⟨g, 1, none⟩ = some (.int .i64 delay) ∧ w'.cell? ⟨g, 3, none⟩ = some (.int .i64 skew)) (ds := [20, 21]) #[false, false, false, false, false, false, false, false, false, false, false, false, false, false, false, false, false, false, false, false, false, false, false] (by kernel_rfl) rfl rfl ⟨x0, x1, x3, y1, y3⟩ (fun hHeld => ?_)
          refine pure_ (i := 0) (N := some 45) (v := ?_) (a' := ?_) #[true, false, false, false, false, false, false, false, false, false, false, false, false, false, false, false, false, false, false, false, false, false, false] rfl rfl (by kernel_rfl) (fun _ _ _ h => h) (Or.inl ⟨by rfl, ?_⟩) ?_ ?_
          rotate_left
          · intro w'
            go_simp
            with_reducible rfl
          rotate_left
          · simp only [Act.put, List.setIfInBounds_toArray, List.set_cons_zero, List.set_cons_succ, i64_w, i32_w]
            rfl
          refine pure_ (i := 1) (N := some 46) (v := ?_) (a' := ?_) #[true, true, false, false, false, false, false, false, false, false, false, false, false, false, false, false, false, false, false, false, false, false, false] rfl rfl (by kernel_rfl) (fun _ _ _ h => h) (Or.inl ⟨by rfl, ?_⟩) ?_ ?_
          rotate_left
          · intro w'
            go_simp
            with_reducible rfl
          rotate_left
          · simp only [Act.put, List.setIfInBounds_toArray, List.set_cons_zero, List.set_cons_succ, i64_w, i32_w]
            rfl
          refine pure_ (i := 3) (N := some 48) (v := ?_) (a' := ?_) #[true, true, false, true, false, false, false, false, false, false, false, false, false, false, false, false, false, false, false, false, false, false, false] rfl rfl (by kernel_rfl) (fun _ _ _ h => h) (Or.inl ⟨by rfl, ?_⟩) ?_ ?_
          rotate_left
          · intro w'
            go_simp
            with_reducible rfl
          rotate_left
          · simp only [Act.put, List.setIfInBounds_toArray, List.set_cons_zero, List.set_cons_succ, i64_w, i32_w]
            rfl
          refine pure_ (i := 5) (N := some 50) (v := ?_) (a' := ?_) #[true, true, false, true, false, true, false, false, false, false, false, false, false, false, false, false, false, false, false, false, false, false, false] rfl rfl (by kernel_rfl) (fun _ _ _ h => h) (Or.inl ⟨by rfl, ?_⟩) ?_ ?_
          rotate_left
          · intro w'
            go_simp
            with_reducible rfl
          rotate_left
          · simp only [Act.put, List.setIfInBounds_toArray, List.set_cons_zero, List.set_cons_succ, i64_w, i32_w]
            rfl
          refine pure_ (i := 7) (N := some 52) (v := ?_) (a' := ?_) #[true, true, false, true, false, true, false, true, false, false, false, false, false, false, false, false, false, false, false, false, false, false, false] rfl rfl (by kernel_rfl) (fun _ _ _ h => h) (Or.inl ⟨by rfl, ?_⟩) ?_ ?_
          rotate_left
          · intro w'
            go_simp
            with_reducible rfl
          rotate_left
          · simp only [Act.put, List.setIfInBounds_toArray, List.set_cons_zero, List.set_cons_succ, i64_w, i32_w]
            rfl
          refine pure_ (i := 8) (N := some 53) (v := ?_) (a' := ?_) #[true, true, false, true, false, true, false, true, true, false, false, false, false, false, false, false, false, false, false, false, false, false, false] rfl rfl (by kernel_rfl) (fun _ _ _ h => h) (Or.inl ⟨by rfl, ?_⟩) ?_ ?_
          rotate_left
          · intro w'
            go_simp
            with_reducible rfl
          rotate_left
          · simp only [Act.put, List.setIfInBounds_toArray, List.set_cons_zero, List.set_cons_succ, i64_w, i32_w]
            rfl
          refine pure_ (i := 9) (N := some 54) (v := ?_) (a' := ?_) #[true, true, false, true, false, true, false, true, true, true, false, false, false, false, false, false, false, false, false, false, false, false, false] rfl rfl (by kernel_rfl) (fun _ _ _ h => h) (Or.inl ⟨by rfl, ?_⟩) ?_ ?_
          rotate_left
          · intro w'
            go_simp
            with_reducible rfl
          rotate_left
          · simp only [Act.put, List.setIfInBounds_toArray, List.set_cons_zero, List.set_cons_succ, i64_w, i32_w]
            rfl
          refine pure_ (i := 10) (N := some 55) (v := ?_) (a' := ?_) #[true, true, false, true, false, true, false, true, true, true, true, false, false, false, false, false, false, false, false, false, false, false, false] rfl rfl (by kernel_rfl) (fun _ _ _ h => h) (Or.inl ⟨by rfl, ?_⟩) ?_ ?_
          rotate_left
          · intro w'
            go_simp
            with_reducible rfl
          rotate_left
          · simp only [Act.put, List.setIfInBounds_toArray, List.set_cons_zero, List.set_cons_succ, i64_w, i32_w]
            rfl
          refine pure_ (i := 13) (N := some 58) (v := ?_) (a' := ?_) #[true, true, false, true, false, true, false, true, true, true, true, false, false, true, false, false, false, false, false, false, false, false, false] rfl rfl (by kernel_rfl) (fun _ _ _ h => h) (Or.inl ⟨by rfl, ?_⟩) ?_ ?_
          rotate_left
          · intro w'
            go_simp
            with_reducible rfl
          rotate_left
          · simp only [Act.put, List.setIfInBounds_toArray, List.set_cons_zero, List.set_cons_succ, i64_w, i32_w]
            rfl
          refine pure_ (i := 14) (N := some 59) (v := ?_) (a' := ?_) #[true, true, false, true, false, true, false, true, true, true, true, false, false, true, true, false, false, false, false, false, false, false, false] rfl rfl (by kernel_rfl) (fun _ _ _ h => h) (Or.inl ⟨by rfl, ?_⟩) ?_ ?_
          rotate_left
          · intro w'
            go_simp
            with_reducible rfl
          rotate_left
          · simp only [Act.put, List.setIfInBounds_toArray, List.set_cons_zero, List.set_cons_succ, i64_w, i32_w]
            rfl
          refine pure_ (i := 15) (N := some 60) (v := ?_) (a' := ?_) #[true, true, false, true, false, true, false, true, true, true, true, false, false, true, true, true, false, false, false, false, false, false, false] rfl rfl (by kernel_rfl) (fun _ _ _ h => h) (Or.inl ⟨by rfl, ?_⟩) ?_ ?_
          rotate_left
          · intro w'
            go_simp
            with_reducible rfl
          rotate_left
          · simp only [Act.put, List.setIfInBounds_toArray, List.set_cons_zero, List.set_cons_succ, i64_w, i32_w]
            rfl
          refine pure_ (i := 16) (N := some 61) (v := ?_) (a' := ?_) #[true, true, false, true, false, true, false, true, true, true, true, false, false, true, true, true, true, false, false, false, false, false, false] rfl rfl (by kernel_rfl) (fun _ _ _ h => h) (Or.inl ⟨by rfl, ?_⟩) ?_ ?_
          rotate_left
          · intro w'
            go_simp
            with_reducible rfl
          rotate_left
          · simp only [Act.put, List.setIfInBounds_toArray, List.set_cons_zero, List.set_cons_succ, i64_w, i32_w]
            rfl
          refine take_ (i := 2) (N := some 47) (v := ?_) (a' := ?_) #[true, true, true, true, false, true, false, true, true, true, true, false, false, true, true, true, true, false, false, false, false, false, false] rfl rfl (by kernel_rfl) (fun _ _ _ h => h) (Or.inl ⟨by rfl, ?_⟩) hHeld ?_ ?_
          rotate_left
          · rintro w' ⟨s0, s1, s2, s3, s4⟩
            go_simp
            with_reducible rfl
          rotate_left
          · simp only [Act.put, List.setIfInBounds_toArray, List.set_cons_zero, List.set_cons_succ, i64_w, i32_w]
            rfl
          refine take_ (i := 4) (N := some 49) (v := ?_) (a' := ?_) #[true, true, true, true, true, true, false, true, true, true, true, false, false, true, true, true, true, false, false, false, false, false, false] rfl rfl (by kernel_rfl) (fun _ _ _ h => h) (Or.inl ⟨by rfl, ?_⟩) hHeld ?_ ?_
          rotate_left
          · rintro w' ⟨s0, s1, s2, s3, s4⟩
            go_simp
            with_reducible rfl
          rotate_left
          · simp only [Act.put, List.setIfInBounds_toArray, List.set_cons_zero, List.set_cons_succ, i64_w, i32_w]
            rfl
          refine take_ (i := 6) (N := some 51) (v := ?_) (a' := ?_) #[true, true, true, true, true, true, true, true, true, true, true, false, false, true, true, true, true, false, false, false, false, false, false] rfl rfl (by kernel_rfl) (fun _ _ _ h => h) (Or.inl ⟨by rfl, ?_⟩) hHeld ?_ ?_
          rotate_left
          · rintro w' ⟨s0, s1, s2, s3, s4⟩
            go_simp
            with_reducible rfl
          rotate_left
          · simp only [Act.put, List.setIfInBounds_toArray, List.set_cons_zero, List.set_cons_succ, i64_w, i32_w]
            rfl
          refine take_ (i := 11) (N := some 56) (v := ?_) (a' := ?_) #[true, true, true, true, true, true, true, true, true, true, true, true, false, true, true, true, true, false, false, false, false, false, false] rfl rfl (by kernel_rfl) (fun _ _ _ h => h) (Or.inl ⟨by rfl, ?_⟩) hHeld ?_ ?_
          rotate_left
          · rintro w' ⟨s0, s1, s2, s3, s4⟩
            go_simp
            with_reducible rfl
          rotate_left
          · simp only [Act.put, List.setIfInBounds_toArray, List.set_cons_zero, List.set_cons_succ, i64_w, i32_w]
            rfl
          refine pure_ (i := 12) (N := some 57) (v := ?_) (a' := ?_) #[true, true, true, true, true, true, true, true, true, true, true, true, true, true, true, true, true, false, false, false, false, false, false] rfl rfl (by kernel_rfl) (fun _ _ _ h => h) (Or.inl ⟨by rfl, ?_⟩) ?_ ?_
          rotate_left
          · intro w'
            go_simp
            with_reducible rfl
          rotate_left
          · simp only [Act.put, List.setIfInBounds_toArray, List.set_cons_zero, List.set_cons_succ, i64_w, i32_w]
            rfl
          refine take_ (i := 17) (N := some 62) (v := ?_) (a' := ?_) #[true, true, true, true, true, true, true, true, true, true, true, true, true, true, true, true, true, true, false, false, false, false, false] rfl rfl (by kernel_rfl) (fun _ _ _ h => h) (Or.inl ⟨by rfl, ?_⟩) hHeld ?_ ?_
          rotate_left
          · rintro w' ⟨s0, s1, s2, s3, s4⟩
            go_simp
            with_reducible rfl
          rotate_left
          · simp only [Act.put, List.setIfInBounds_toArray, List.set_cons_zero, List.set_cons_succ, i64_w, i32_w]
            rfl
          refine pure_ (i := 18) (N := some 63) (v := ?_) (a' := ?_) #[true, true, true, true, true, true, true, true, true, true, true, true, true, true, true, true, true, true, true, false, false, false, false] rfl rfl (by kernel_rfl) (fun _ _ _ h => h) (Or.inl ⟨by rfl, ?_⟩) ?_ ?_
          rotate_left
          · intro w'
            go_simp
            with_reducible rfl
          rotate_left
          · simp only [Act.put, List.setIfInBounds_toArray, List.set_cons_zero, List.set_cons_succ, i64_w, i32_w]
            rfl
          refine pure_ (i := 19) (N := some 64) (v := ?_) (a' := ?_) #[true, true, true, true, true, true, true, true, true, true, true, true, true, true, true, true, true, true, true, true, false, false, false] rfl rfl (by kernel_rfl) (fun _ _ _ h => h) (Or.inl ⟨by rfl, ?_⟩) ?_ ?_
          rotate_left
          · intro w'
            go_simp
            with_reducible rfl
          rotate_left
          · simp only [Act.put, List.setIfInBounds_toArray, List.set_cons_zero, List.set_cons_succ, i64_w, i32_w]
            rfl
          refine last_ (i := 20) (N := some 65) #[true, true, true, true, true, true, true, true, true, true, true, true, true, true, true, true, true, true, true, true, true, false, false] rfl rfl (by kernel_rfl) (by decide) (fun K hK => ?_)
          refine value_ (w1 := ?_) (v := ?_) (by rfl) rfl ?_ ?_
          rotate_left 2
          · go_simp
            constructor
            · rfl
            · rfl
          refine hK.out _ _ ?_
          clear hK K
          refine norm_ (a' := ?_) ?_ ?_
          rotate_left
          · show Act.put _ (some 65) _ = _
            simp only [Act.put, List.setIfInBounds_toArray, List.set_cons_zero, List.set_cons_succ, i64_w, i32_w]
            rfl
          refine last_ (i := 21) (N := some 66) #[true, true, true, true, true, true, true, true, true, true, true, true, true, true, true, true, true, true, true, true, true, true, false] rfl rfl (by kernel_rfl) (by decide) (fun K hK => ?_)
          refine Kd.R_append_step cmD (w0 := w) w.heap.size (by rfl) (.tmp 45) (.tmp 65) 34 37 (.agg #[.int .i64 0, .int .i64 0, .int .i64 0]) 24 rfl Try.underlying34 (by kernel_rfl) rfl (by decide) (by decide) (.slice A5 os.length c5) os (a, b, wrap64 (wrap64 (d + delay) + skew)) _ (fun _ => True) (fun _ => False) rfl rfl (cm_M _ _ _ _ _ _) (fun _ hk => hk.elim) (fun _ _ => trivial) (Kd.R_drew HR9.out) HB9.out.drew HB9.out.size hl ?_
          intro v1 w5 hR5 hB5 hG5 hO5
          obtain ⟨A6, c6, rfl⟩ := Kd.R_slice hR5
          refine hK.out _ _ ?_
          clear hK K
          refine norm_ (a' := ?_) ?_ ?_
          rotate_left
          · show Act.put _ (some 66) _ = _
            simp only [Act.put, List.setIfInBounds_toArray, List.set_cons_zero, List.set_cons_succ, i64_w, i32_w]
            rfl
          refine pure_ (i := 22) (N := some 5) (v := ?_) (a' := ?_) #[true, true, true, true, true, true, true, true, true, true, true, true, true, true, true, true, true, true, true, true, true, true, true] rfl rfl (by kernel_rfl) (fun _ _ _ h => h) (Or.inl ⟨by rfl, ?_⟩) ?_ ?_
          rotate_left
          · intro w'
            go_simp
            with_reducible rfl
          rotate_left
          · simp only [Act.put, List.setIfInBounds_toArray, List.set_cons_zero, List.set_cons_succ, i64_w, i32_w]
            rfl
          refine done_ (by kernel_rfl) ?_
          go_wp2_with fail
          refine ⟨⟨k + 1, A6, c6, os ++ [(a, b, wrap64 (wrap64 (d + delay) + skew))], by simp, by simp, by omega, by simp; omega, ⟨hR5⟩, ⟨hB5⟩, ⟨?_⟩⟩, by simp [intOf]; omega⟩
          rw [hL.out, drop_some hp, lk_came hr rfl]
          simp
      · have k2 : decide (wrap64 (d + delay) ≤ t) = false := by simp [hr]
        go_wp2_with fail
        refine start_ (n := 20) (S := fun w' => w'.cell? ⟨g, 7, none⟩ = some (.slice (some ad) n c)) (ds := [19]) #[false, false, false, false, false, false, false, false, false, false, false, false, false, false, false, false, false, false, false, false] (by kernel_rfl) rfl rfl (z7) (fun hHeld => ?_)
        refine pure_ (i := 0) (N := some 69) (v := ?_) (a' := ?_) #[true, false, false, false, false, false, false, false, false, false, false, false, false, false, false, false, false, false, false, false] rfl rfl (by kernel_rfl) (fun _ _ _ h => h) (Or.inl ⟨by rfl, ?_⟩) ?_ ?_
        rotate_left
        · intro w'
          go_simp
          with_reducible rfl
        rotate_left
        · simp only [Act.put, List.setIfInBounds_toArray, List.set_cons_zero, List.set_cons_succ, i64_w, i32_w]
          rfl
        refine pure_ (i := 1) (N := some 70) (v := ?_) (a' := ?_) #[true, true, false, false, false, false, false, false, false, false, false, false, false, false, false, false, false, false, false, false] rfl rfl (by kernel_rfl) (fun _ _ _ h => h) (Or.inl ⟨by rfl, ?_⟩) ?_ ?_
        rotate_left
        · intro w'
          go_simp
          with_reducible rfl
        rotate_left
        · simp only [Act.put, List.setIfInBounds_toArray, List.set_cons_zero, List.set_cons_succ, i64_w, i32_w]
          rfl
        refine pure_ (i := 2) (N := some 71) (v := ?_) (a' := ?_) #[true, true, true, false, false, false, false, false, false, false, false, false, false, false, false, false, false, false, false, false] rfl rfl (by kernel_rfl) (fun _ _ _ h => h) (Or.inl ⟨by rfl, ?_⟩) ?_ ?_
        rotate_left
        · intro w'
          go_simp
          with_reducible rfl
        rotate_left
        · simp only [Act.put, List.setIfInBounds_toArray, List.set_cons_zero, List.set_cons_succ, i64_w, i32_w]
          rfl
        refine pure_ (i := 3) (N := some 72) (v := ?_) (a' := ?_) #[true, true, true, true, false, false, false, false, false, false, false, false, false, false, false, false, false, false, false, false] rfl rfl (by kernel_rfl) (fun _ _ _ h => h) (Or.inl ⟨by rfl, ?_⟩) ?_ ?_
        rotate_left
        · intro w'
          go_simp
          with_reducible rfl
        rotate_left
        · simp only [Act.put, List.setIfInBounds_toArray, List.set_cons_zero, List.set_cons_succ, i64_w, i32_w]
          rfl
        refine pure_ (i := 5) (N := some 74) (v := ?_) (a' := ?_) #[true, true, true, true, false, true, false, false, false, false, false, false, false, false, false, false, false, false, false, false] rfl rfl (by kernel_rfl) (fun _ _ _ h => h) (Or.inl ⟨by rfl, ?_⟩) ?_ ?_
        rotate_left
        · intro w'
          go_simp
          with_reducible rfl
        rotate_left
        · simp only [Act.put, List.setIfInBounds_toArray, List.set_cons_zero, List.set_cons_succ, i64_w, i32_w]
          rfl
        refine pure_ (i := 6) (N := some 75) (v := ?_) (a' := ?_) #[true, true, true, true, false, true, true, false, false, false, false, false, false, false, false, false, false, false, false, false] rfl rfl (by kernel_rfl) (fun _ _ _ h => h) (Or.inl ⟨by rfl, ?_⟩) ?_ ?_
        rotate_left
        · intro w'
          go_simp
          with_reducible rfl
        rotate_left
        · simp only [Act.put, List.setIfInBounds_toArray, List.set_cons_zero, List.set_cons_succ, i64_w, i32_w]
          rfl
        refine pure_ (i := 7) (N := some 76) (v := ?_) (a' := ?_) #[true, true, true, true, false, true, true, true, false, false, false, false, false, false, false, false, false, false, false, false] rfl rfl (by kernel_rfl) (fun _ _ _ h => h) (Or.inl ⟨by rfl, ?_⟩) ?_ ?_
        rotate_left
        · intro w'
          go_simp
          with_reducible rfl
        rotate_left
        · simp only [Act.put, List.setIfInBounds_toArray, List.set_cons_zero, List.set_cons_succ, i64_w, i32_w]
          rfl
        refine pure_ (i := 8) (N := some 77) (v := ?_) (a' := ?_) #[true, true, true, true, false, true, true, true, true, false, false, false, false, false, false, false, false, false, false, false] rfl rfl (by kernel_rfl) (fun _ _ _ h => h) (Or.inl ⟨by rfl, ?_⟩) ?_ ?_
        rotate_left
        · intro w'
          go_simp
          with_reducible rfl
        rotate_left
        · simp only [Act.put, List.setIfInBounds_toArray, List.set_cons_zero, List.set_cons_succ, i64_w, i32_w]
          rfl
        refine pure_ (i := 11) (N := some 80) (v := ?_) (a' := ?_) #[true, true, true, true, false, true, true, true, true, false, false, true, false, false, false, false, false, false, false, false] rfl rfl (by kernel_rfl) (fun _ _ _ h => h) (Or.inl ⟨by rfl, ?_⟩) ?_ ?_
        rotate_left
        · intro w'
          go_simp
          with_reducible rfl
        rotate_left
        · simp only [Act.put, List.setIfInBounds_toArray, List.set_cons_zero, List.set_cons_succ, i64_w, i32_w]
          rfl
        refine pure_ (i := 12) (N := some 81) (v := ?_) (a' := ?_) #[true, true, true, true, false, true, true, true, true, false, false, true, true, false, false, false, false, false, false, false] rfl rfl (by kernel_rfl) (fun _ _ _ h => h) (Or.inl ⟨by rfl, ?_⟩) ?_ ?_
        rotate_left
        · intro w'
          go_simp
          with_reducible rfl
        rotate_left
        · simp only [Act.put, List.setIfInBounds_toArray, List.set_cons_zero, List.set_cons_succ, i64_w, i32_w]
          rfl
        refine pure_ (i := 13) (N := some 82) (v := ?_) (a' := ?_) #[true, true, true, true, false, true, true, true, true, false, false, true, true, true, false, false, false, false, false, false] rfl rfl (by kernel_rfl) (fun _ _ _ h => h) (Or.inl ⟨by rfl, ?_⟩) ?_ ?_
        rotate_left
        · intro w'
          go_simp
          with_reducible rfl
        rotate_left
        · simp only [Act.put, List.setIfInBounds_toArray, List.set_cons_zero, List.set_cons_succ, i64_w, i32_w]
          rfl
        refine take_ (i := 4) (N := some 73) (v := ?_) (a' := ?_) #[true, true, true, true, true, true, true, true, true, false, false, true, true, true, false, false, false, false, false, false] rfl rfl (by kernel_rfl) (fun _ _ _ h => h) (Or.inl ⟨by rfl, ?_⟩) hHeld ?_ ?_
        rotate_left
        · intro w' s0
          go_simp
          with_reducible rfl
        rotate_left
        · simp only [Act.put, List.setIfInBounds_toArray, List.set_cons_zero, List.set_cons_succ, i64_w, i32_w]
          rfl
        refine take_ (i := 9) (N := some 78) (v := ?_) (a' := ?_) #[true, true, true, true, true, true, true, true, true, true, false, true, true, true, false, false, false, false, false, false] rfl rfl (by kernel_rfl) (fun _ _ _ h => h) (Or.inl ⟨by rfl, ?_⟩) hHeld ?_ ?_
        rotate_left
        · intro w' s0
          go_simp
          with_reducible rfl
        rotate_left
        · simp only [Act.put, List.setIfInBounds_toArray, List.set_cons_zero, List.set_cons_succ, i64_w, i32_w]
          rfl
        refine pure_ (i := 10) (N := some 79) (v := ?_) (a' := ?_) #[true, true, true, true, true, true, true, true, true, true, true, true, true, true, false, false, false, false, false, false] rfl rfl (by kernel_rfl) (fun _ _ _ h => h) (Or.inl ⟨by rfl, ?_⟩) ?_ ?_
        rotate_left
        · intro w'
          go_simp
          with_reducible rfl
        rotate_left
        · simp only [Act.put, List.setIfInBounds_toArray, List.set_cons_zero, List.set_cons_succ, i64_w, i32_w]
          rfl
        refine take_ (i := 14) (N := some 83) (v := ?_) (a' := ?_) #[true, true, true, true, true, true, true, true, true, true, true, true, true, true, true, false, false, false, false, false] rfl rfl (by kernel_rfl) (fun _ _ _ h => h) (Or.inl ⟨by rfl, ?_⟩) hHeld ?_ ?_
        rotate_left
        · intro w' s0
          go_simp
          with_reducible rfl
        rotate_left
        · simp only [Act.put, List.setIfInBounds_toArray, List.set_cons_zero, List.set_cons_succ, i64_w, i32_w]
          rfl
        refine pure_ (i := 15) (N := some 84) (v := ?_) (a' := ?_) #[true, true, true, true, true, true, true, true, true, true, true, true, true, true, true, true, false, false, false, false] rfl rfl (by kernel_rfl) (fun _ _ _ h => h) (Or.inl ⟨by rfl, ?_⟩) ?_ ?_
        rotate_left
        · intro w'
          go_simp
          with_reducible rfl
        rotate_left
        · simp only [Act.put, List.setIfInBounds_toArray, List.set_cons_zero, List.set_cons_succ, i64_w, i32_w]
          rfl
        refine pure_ (i := 16) (N := some 85) (v := ?_) (a' := ?_) #[true, true, true, true, true, true, true, true, true, true, true, true, true, true, true, true, true, false, false, false] rfl rfl (by kernel_rfl) (fun _ _ _ h => h) (Or.inl ⟨by rfl, ?_⟩) ?_ ?_
        rotate_left
        · intro w'
          go_simp
          with_reducible rfl
        rotate_left
        · simp only [Act.put, List.setIfInBounds_toArray, List.set_cons_zero, List.set_cons_succ, i64_w, i32_w]
          rfl
        refine pure_ (i := 17) (N := some 86) (v := ?_) (a' := ?_) #[true, true, true, true, true, true, true, true, true, true, true, true, true, true, true, true, true, true, false, false] rfl rfl (by kernel_rfl) (fun _ _ _ h => h) (Or.inl ⟨by rfl, ?_⟩) ?_ ?_
        rotate_left
        · intro w'
          go_simp
          with_reducible rfl
        rotate_left
        · simp only [Act.put, List.setIfInBounds_toArray, List.set_cons_zero, List.set_cons_succ, i64_w, i32_w]
          rfl
        refine pure_ (i := 18) (N := some 87) (v := ?_) (a' := ?_) #[true, true, true, true, true, true, true, true, true, true, true, true, true, true, true, true, true, true, true, false] rfl rfl (by kernel_rfl) (fun _ _ _ h => h) (Or.inl ⟨by rfl, ?_⟩) ?_ ?_
        rotate_left
        · intro w'
          go_simp
          with_reducible rfl
        rotate_left
        · simp only [Act.put, List.setIfInBounds_toArray, List.set_cons_zero, List.set_cons_succ, i64_w, i32_w]
          rfl
        refine last_ (i := 19) (N := none) #[true, true, true, true, true, true, true, true, true, true, true, true, true, true, true, true, true, true, true, true] rfl rfl (by kernel_rfl) (by decide) (fun K hK => ?_)
        refine skip_ (w1 := ?_) (by rfl) rfl ?_ ?_
        rotate_left
        · go_simp
          rfl
        refine hK.out _ _ ?_
        clear hK K
        refine done_ (by kernel_rfl) ?_
        go_wp2_with fail
        go_ret
        have eN := HN.out
        subst eN
        refine out_end g ⟨rate, delay, lose, skew, last, free, count, q⟩ _ A5 c c5 k t os w wz _ HA.out HC.out HG.out hk HBz.out HRz.out ?_ ?_
        · rw [hL.out, drop_some hp, lk_stop (by show ¬ wrap64 (d + delay) ≤ t; omega)]
          simp
        · simp; omega
    · have k1 : decide ((k : Int) < (n : Int)) = false := by simp; omega
      go_wp2_with fail
      go_quiet (fail)
      have HBz : Aside0 (Below w.heap.size w (wr.drewN nq)) := ⟨hB.out.trans ((pw_below_drewN (Below.refl _ _) nq).mono hB.out.size)⟩
      have HRz : Aside0 (cmD.R 37 (wr.drewN nq) w.heap.size (fun _ => True) (.slice A5 os.length c5) os) := ⟨Kd.R_drewN hR.out nq⟩
      have z1 : (wr.drewN nq).cell? ⟨g, 1, none⟩ = some (.int .i64 delay) := r1
      have z3 : (wr.drewN nq).cell? ⟨g, 3, none⟩ = some (.int .i64 skew) := r3
      have z7 : (wr.drewN nq).cell? ⟨g, 7, none⟩ = some (.slice A n c) := r7
      generalize wr.drewN nq = wz at *
      clear r1 r3 r7 hR hB h1 h3 h7 hcell
      have Hz : Aside0 (wz.heap[g]? = some (.cells #[.int .i64 rate, .int .i64 delay, .int .i64 lose, .int .i64 skew, .int .i64 last, .int .i64 free, .int .i64 count, .slice A q.length c] 51 (0, 0))) := ⟨(HBz.out.block g hgw).trans HA.out⟩
      have zf := blk_frozen Hz.out 7
      go_wp2_with fail
      refine start_ (n := 20) (S := fun w' => w'.cell? ⟨g, 7, none⟩ = some (.slice A n c)) (ds := [19]) #[false, false, false, false, false, false, false, false, false, false, false, false, false, false, false, false, false, false, false, false] (by kernel_rfl) rfl rfl (z7) (fun hHeld => ?_)
      refine pure_ (i := 0) (N := some 69) (v := ?_) (a' := ?_) #[true, false, false, false, false, false, false, false, false, false, false, false, false, false, false, false, false, false, false, false] rfl rfl (by kernel_rfl) (fun _ _ _ h => h) (Or.inl ⟨by rfl, ?_⟩) ?_ ?_
      rotate_left
      · intro w'
        go_simp
        with_reducible rfl
      rotate_left
      · simp only [Act.put, List.setIfInBounds_toArray, List.set_cons_zero, List.set_cons_succ, i64_w, i32_w]
        rfl
      refine pure_ (i := 1) (N := some 70) (v := ?_) (a' := ?_) #[true, true, false, false, false, false, false, false, false, false, false, false, false, false, false, false, false, false, false, false] rfl rfl (by kernel_rfl) (fun _ _ _ h => h) (Or.inl ⟨by rfl, ?_⟩) ?_ ?_
      rotate_left
      · intro w'
        go_simp
        with_reducible rfl
      rotate_left
      · simp only [Act.put, List.setIfInBounds_toArray, List.set_cons_zero, List.set_cons_succ, i64_w, i32_w]
        rfl
      refine pure_ (i := 2) (N := some 71) (v := ?_) (a' := ?_) #[true, true, true, false, false, false, false, false, false, false, false, false, false, false, false, false, false, false, false, false] rfl rfl (by kernel_rfl) (fun _ _ _ h => h) (Or.inl ⟨by rfl, ?_⟩) ?_ ?_
      rotate_left
      · intro w'
        go_simp
        with_reducible rfl
      rotate_left
      · simp only [Act.put, List.setIfInBounds_toArray, List.set_cons_zero, List.set_cons_succ, i64_w, i32_w]
        rfl
      refine pure_ (i := 3) (N := some 72) (v := ?_) (a' := ?_) #[true, true, true, true, false, false, false, false, false, false, false, false, false, false, false, false, false, false, false, false] rfl rfl (by kernel_rfl) (fun _ _ _ h => h) (Or.inl ⟨by rfl, ?_⟩) ?_ ?_
      rotate_left
      · intro w'
        go_simp
        with_reducible rfl
      rotate_left
      · simp only [Act.put, List.setIfInBounds_toArray, List.set_cons_zero, List.set_cons_succ, i64_w, i32_w]
        rfl
      refine pure_ (i := 5) (N := some 74) (v := ?_) (a' := ?_) #[true, true, true, true, false, true, false, false, false, false, false, false, false, false, false, false, false, false, false, false] rfl rfl (by kernel_rfl) (fun _ _ _ h => h) (Or.inl ⟨by rfl, ?_⟩) ?_ ?_
      rotate_left
      · intro w'
        go_simp
        with_reducible rfl
      rotate_left
      · simp only [Act.put, List.setIfInBounds_toArray, List.set_cons_zero, List.set_cons_succ, i64_w, i32_w]
        rfl
      refine pure_ (i := 6) (N := some 75) (v := ?_) (a' := ?_) #[true, true, true, true, false, true, true, false, false, false, false, false, false, false, false, false, false, false, false, false] rfl rfl (by kernel_rfl) (fun _ _ _ h => h) (Or.inl ⟨by rfl, ?_⟩) ?_ ?_
      rotate_left
      · intro w'
        go_simp
        with_reducible rfl
      rotate_left
      · simp only [Act.put, List.setIfInBounds_toArray, List.set_cons_zero, List.set_cons_succ, i64_w, i32_w]
        rfl
      refine pure_ (i := 7) (N := some 76) (v := ?_) (a' := ?_) #[true, true, true, true, false, true, true, true, false, false, false, false, false, false, false, false, false, false, false, false] rfl rfl (by kernel_rfl) (fun _ _ _ h => h) (Or.inl ⟨by rfl, ?_⟩) ?_ ?_
      rotate_left
      · intro w'
        go_simp
        with_reducible rfl
      rotate_left
      · simp only [Act.put, List.setIfInBounds_toArray, List.set_cons_zero, List.set_cons_succ, i64_w, i32_w]
        rfl
      refine pure_ (i := 8) (N := some 77) (v := ?_) (a' := ?_) #[true, true, true, true, false, true, true, true, true, false, false, false, false, false, false, false, false, false, false, false] rfl rfl (by kernel_rfl) (fun _ _ _ h => h) (Or.inl ⟨by rfl, ?_⟩) ?_ ?_
      rotate_left
      · intro w'
        go_simp
        with_reducible rfl
      rotate_left
      · simp only [Act.put, List.setIfInBounds_toArray, List.set_cons_zero, List.set_cons_succ, i64_w, i32_w]
        rfl
      refine pure_ (i := 11) (N := some 80) (v := ?_) (a' := ?_) #[true, true, true, true, false, true, true, true, true, false, false, true, false, false, false, false, false, false, false, false] rfl rfl (by kernel_rfl) (fun _ _ _ h => h) (Or.inl ⟨by rfl, ?_⟩) ?_ ?_
      rotate_left
      · intro w'
        go_simp
        with_reducible rfl
      rotate_left
      · simp only [Act.put, List.setIfInBounds_toArray, List.set_cons_zero, List.set_cons_succ, i64_w, i32_w]
        rfl
      refine pure_ (i := 12) (N := some 81) (v := ?_) (a' := ?_) #[true, true, true, true, false, true, true, true, true, false, false, true, true, false, false, false, false, false, false, false] rfl rfl (by kernel_rfl) (fun _ _ _ h => h) (Or.inl ⟨by rfl, ?_⟩) ?_ ?_
      rotate_left
      · intro w'
        go_simp
        with_reducible rfl
      rotate_left
      · simp only [Act.put, List.setIfInBounds_toArray, List.set_cons_zero, List.set_cons_succ, i64_w, i32_w]
        rfl
      refine pure_ (i := 13) (N := some 82) (v := ?_) (a' := ?_) #[true, true, true, true, false, true, true, true, true, false, false, true, true, true, false, false, false, false, false, false] rfl rfl (by kernel_rfl) (fun _ _ _ h => h) (Or.inl ⟨by rfl, ?_⟩) ?_ ?_
      rotate_left
      · intro w'
        go_simp
        with_reducible rfl
      rotate_left
      · simp only [Act.put, List.setIfInBounds_toArray, List.set_cons_zero, List.set_cons_succ, i64_w, i32_w]
        rfl
      refine take_ (i := 4) (N := some 73) (v := ?_) (a' := ?_) #[true, true, true, true, true, true, true, true, true, false, false, true, true, true, false, false, false, false, false, false] rfl rfl (by kernel_rfl) (fun _ _ _ h => h) (Or.inl ⟨by rfl, ?_⟩) hHeld ?_ ?_
      rotate_left
      · intro w' s0
        go_simp
        with_reducible rfl
      rotate_left
      · simp only [Act.put, List.setIfInBounds_toArray, List.set_cons_zero, List.set_cons_succ, i64_w, i32_w]
        rfl
      refine take_ (i := 9) (N := some 78) (v := ?_) (a' := ?_) #[true, true, true, true, true, true, true, true, true, true, false, true, true, true, false, false, false, false, false, false] rfl rfl (by kernel_rfl) (fun _ _ _ h => h) (Or.inl ⟨by rfl, ?_⟩) hHeld ?_ ?_
      rotate_left
      · intro w' s0
        go_simp
        with_reducible rfl
      rotate_left
      · simp only [Act.put, List.setIfInBounds_toArray, List.set_cons_zero, List.set_cons_succ, i64_w, i32_w]
        rfl
      refine pure_ (i := 10) (N := some 79) (v := ?_) (a' := ?_) #[true, true, true, true, true, true, true, true, true, true, true, true, true, true, false, false, false, false, false, false] rfl rfl (by kernel_rfl) (fun _ _ _ h => h) (Or.inl ⟨by rfl, ?_⟩) ?_ ?_
      rotate_left
      · intro w'
        go_simp
        with_reducible rfl
      rotate_left
      · simp only [Act.put, List.setIfInBounds_toArray, List.set_cons_zero, List.set_cons_succ, i64_w, i32_w]
        rfl
      refine take_ (i := 14) (N := some 83) (v := ?_) (a' := ?_) #[true, true, true, true, true, true, true, true, true, true, true, true, true, true, true, false, false, false, false, false] rfl rfl (by kernel_rfl) (fun _ _ _ h => h) (Or.inl ⟨by rfl, ?_⟩) hHeld ?_ ?_
      rotate_left
      · intro w' s0
        go_simp
        with_reducible rfl
      rotate_left
      · simp only [Act.put, List.setIfInBounds_toArray, List.set_cons_zero, List.set_cons_succ, i64_w, i32_w]
        rfl
      refine pure_ (i := 15) (N := some 84) (v := ?_) (a' := ?_) #[true, true, true, true, true, true, true, true, true, true, true, true, true, true, true, true, false, false, false, false] rfl rfl (by kernel_rfl) (fun _ _ _ h => h) (Or.inl ⟨by rfl, ?_⟩) ?_ ?_
      rotate_left
      · intro w'
        go_simp
        with_reducible rfl
      rotate_left
      · simp only [Act.put, List.setIfInBounds_toArray, List.set_cons_zero, List.set_cons_succ, i64_w, i32_w]
        rfl
      refine pure_ (i := 16) (N := some 85) (v := ?_) (a' := ?_) #[true, true, true, true, true, true, true, true, true, true, true, true, true, true, true, true, true, false, false, false] rfl rfl (by kernel_rfl) (fun _ _ _ h => h) (Or.inl ⟨by rfl, ?_⟩) ?_ ?_
      rotate_left
      · intro w'
        go_simp
        with_reducible rfl
      rotate_left
      · simp only [Act.put, List.setIfInBounds_toArray, List.set_cons_zero, List.set_cons_succ, i64_w, i32_w]
        rfl
      refine pure_ (i := 17) (N := some 86) (v := ?_) (a' := ?_) #[true, true, true, true, true, true, true, true, true, true, true, true, true, true, true, true, true, true, false, false] rfl rfl (by kernel_rfl) (fun _ _ _ h => h) (Or.inl ⟨by rfl, ?_⟩) ?_ ?_
      rotate_left
      · intro w'
        go_simp
        with_reducible rfl
      rotate_left
      · simp only [Act.put, List.setIfInBounds_toArray, List.set_cons_zero, List.set_cons_succ, i64_w, i32_w]
        rfl
      refine pure_ (i := 18) (N := some 87) (v := ?_) (a' := ?_) #[true, true, true, true, true, true, true, true, true, true, true, true, true, true, true, true, true, true, true, false] rfl rfl (by kernel_rfl) (fun _ _ _ h => h) (Or.inl ⟨by rfl, ?_⟩) ?_ ?_
      rotate_left
      · intro w'
        go_simp
        with_reducible rfl
      rotate_left
      · simp only [Act.put, List.setIfInBounds_toArray, List.set_cons_zero, List.set_cons_succ, i64_w, i32_w]
        rfl
      refine last_ (i := 19) (N := none) #[true, true, true, true, true, true, true, true, true, true, true, true, true, true, true, true, true, true, true, true] rfl rfl (by kernel_rfl) (by decide) (fun K hK => ?_)
      refine skip_ (w1 := ?_) (by rfl) rfl ?_ ?_
      rotate_left
      · go_simp
        rfl
      refine hK.out _ _ ?_
      clear hK K
      refine done_ (by kernel_rfl) ?_
      go_wp2_with fail
      go_ret
      have eN := HN.out
      subst eN
      have hkn : k = q.length := by omega
      refine out_end g ⟨rate, delay, lose, skew, last, free, count, q⟩ A A5 c c5 k t os w wz _ HA.out HC.out HG.out hk HBz.out HRz.out ?_ ?_
      · rw [hL.out, List.drop_of_length_le (by omega)]
        simp [lkOut]
      · simp [hkn]
end Go.Proofs.Ytaghgjmcjmjfiaa.B
