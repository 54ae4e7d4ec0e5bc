/-
  The way with one queue: what waits in it. Walk over the program.
-/
import Derived.Test.YtaghgjmcjmjfiaaLi
namespace Go.Proofs.Ytaghgjmcjmjfiaa.B
open Go.RowKit Go.Proofs.YtaghgjmcjmjfiaaW.PrintWords Go.Proofs.YtaghgjmcjmjfiaaW.PrintLast Go.Proofs.YtaghgjmcjmjfiaaW.PrintMore
set_option linter.unusedVariables false
set_option linter.unusedSimpArgs false
theorem add_field5 (ad : Addr) (m j : Nat) (h : j ≠ 0) : ad.add (m + j) = ⟨(ad.add m).block, (ad.add m).off + j, none⟩ := by
  unfold Addr.add
  rw [if_neg (by omega)]
  split <;> simp <;> omega
theorem pk_at {w : World} {A : Option Addr} {n : Nat} {q : List Pkt} (h : pkD.C w A n q) (k : Nat) (hk : k < n) : ∃ (ad : Addr) (a b c d : Int) (l : Bool), A = some ad ∧ q[k]? = some (a, b, c, d, l) ∧ w.cell? (ad.add (k * 5)) = some (.int .i64 a) ∧ w.cell? (ad.add (k * 5 + 1)) = some (.int .i64 b) ∧ w.cell? (ad.add (k * 5 + 2)) = some (.int .i64 c) ∧ w.cell? (ad.add (k * 5 + 3)) = some (.int .i64 d) ∧ w.cell? (ad.add (k * 5 + 4)) = some (.bool l) := by
  have hn := Kd.C_len h
  obtain ⟨ad, cs, hA, _, hK, hc⟩ := Kd.C_get h (0, 0, 0, 0, false) (k : Int) (by omega) (by omega)
  rw [Int.toNat_natCast] at hK hc
  obtain ⟨p, hp⟩ : ∃ p, q[k]? = some p := ⟨q[k]'(by omega), List.getElem?_eq_getElem (by omega)⟩
  have hg : q.getD k (0, 0, 0, 0, false) = p := by rw [List.getD_eq_getElem?_getD, hp]; rfl
  rw [hg] at hK
  obtain ⟨a, b, c, d, l⟩ := p
  obtain ⟨_, _, rfl, rfl, _, _, rfl, rfl, _, _, rfl, rfl, _, _, rfl, rfl, rfl⟩ := hK
  exact ⟨ad, a, b, c, d, l, hA, hp, hc 0 _ rfl, hc 1 _ rfl, hc 2 _ rfl, hc 3 _ rfl, hc 4 _ rfl⟩
/-- What waits: the bytes that came and are not carried. -/
def qstep (t : Int) (s : Int) (p : Pkt) : Int := if p.2.2.1 ≤ t ∧ t < p.2.2.2.1 then wrap64 (s + p.2.1) else s
def qsum (q : List Pkt) (t : Int) : Int := q.foldl (qstep t) 0
theorem qsum_step {q : List Pkt} {k : Nat} {p : Pkt} (t : Int) (h : q[k]? = some p) : qsum (q.take (k + 1)) t = qstep t (qsum (q.take k) t) p := by
  unfold qsum
  rw [List.take_add_one, h, List.foldl_append]
  rfl
def QuRel (q : List Pkt) (n : Nat) (t : Int) (w : World) (v5 v15 : Value) (wr : World) : Prop :=
  ∃ k : Nat, v5 = .int .i64 (qsum (q.take k) t) ∧ v15 = .int .i64 (k : Int) ∧ k ≤ n ∧ Aside0 (Below w.heap.size w wr)
set_option maxHeartbeats 2000000 in
theorem queue_any (base g : Nat) (y : Wy) (v : Value) (t : Int) (w : World) (hW : WyIs w base g y v) (hq : y.q.length < 9223372036854775808) : Calls Try.prog 15 #[.pointer (some ⟨g, 0, none⟩), .int .i64 t] w fun e w' => e = .returned (.int .i64 (qsum y.q t)) ∧ Below w.heap.size w w' := by
  obtain ⟨rate, delay, lose, skew, last, free, count, q⟩ := y
  obtain ⟨hbg, hA, hQ⟩ := hW
  unfold WyAt at hA
  dsimp only at hA hQ hq
  obtain ⟨A, c, rfl, hc, hC⟩ := Kd.Q_reads hQ
  have h7 := blk_cell hA 7
  simp only [List.getElem?_toArray, List.getElem?_cons_zero, List.getElem?_cons_succ] at h7
  have HC := Aside0.mk hC
  obtain ⟨n, hn⟩ : ∃ n, n = q.length := ⟨_, rfl⟩
  rw [← hn] at h7 HC hq
  have HN := Aside0.mk hn
  clear hA hQ hC hn hc
  go_enter Try.func15, Try.ntmps15
  go_wp2_with fail
  go_loopw [5, 15] (fun v5 v15 wr => QuRel q n t w v5 v15 wr) (fun _ v _ => n - (intOf v).toNat)
  case atStart => exact ⟨0, rfl, rfl, by omega, ⟨Below.refl _ _⟩⟩
  case round =>
    obtain ⟨k, rfl, rfl, hk, hB⟩ := hrel
    by_cases hlt : k < n
    · obtain ⟨ad, a, b, c2, d, l, rfl, hp, g0, g1, g2, g3, g4⟩ := pk_at HC.out k hlt
      have hadb : (ad.add (k * 5)).block < w.heap.size := World.block_lt_of_cell? w _ g0
      have hcell : ∀ (p : Addr) (v : Value), p.block < w.heap.size → w.cell? p = some v → wr.cell? p = some v := by
        intro p v hp hc
        rw [World.cell?_of_block (w := w) (hB.out.block _ hp)]
        exact hc
      have t0 := hcell _ _ hadb g0
      have t1 := hcell ⟨(ad.add (k * 5)).block, (ad.add (k * 5)).off + 1, none⟩ _ hadb (by rw [← add_field5 _ _ 1 (by omega)]; exact g1)
      have t2 := hcell ⟨(ad.add (k * 5)).block, (ad.add (k * 5)).off + 2, none⟩ _ hadb (by rw [← add_field5 _ _ 2 (by omega)]; exact g2)
      have t3 := hcell ⟨(ad.add (k * 5)).block, (ad.add (k * 5)).off + 3, none⟩ _ hadb (by rw [← add_field5 _ _ 3 (by omega)]; exact g3)
      have t4 := hcell ⟨(ad.add (k * 5)).block, (ad.add (k * 5)).off + 4, none⟩ _ hadb (by rw [← add_field5 _ _ 4 (by omega)]; exact g4)
      clear g0 g1 g2 g3 g4 hcell
      go_wp2_with fail
      all_goals
        have hs := qsum_step t hp
        refine ⟨⟨k + 1, ?_, by simp, by omega, ⟨hB.out.alloc hB.out.size _⟩⟩, by simp [intOf]; omega⟩
        rw [hs]
        simp only [qstep]
      · rw [if_pos ⟨by assumption, by assumption⟩]
      · rw [if_neg (by omega)]
      · rw [if_neg (by omega)]
    · have hkn : k = n := by omega
      subst hkn
      go_wp2_with fail
      all_goals go_ret
      have e := HN.out
      rw [List.take_of_length_le (by omega)]
      exact ⟨rfl, hB.out⟩
end Go.Proofs.Ytaghgjmcjmjfiaa.B
