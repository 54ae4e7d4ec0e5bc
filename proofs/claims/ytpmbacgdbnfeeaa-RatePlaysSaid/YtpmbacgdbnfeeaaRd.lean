/-
  A meter: what was lost, and a sample. Walks over the program.
-/
import Derived.Test.YtpmbacgdbnfeeaaRc
namespace Go.Proofs.Ytpmbacgdbnfeeaa.B
open Go.RowKit Go.Proofs.YtpmbacgdbnfeeaaW.PrintWords Go.Proofs.YtpmbacgdbnfeeaaW.PrintLast Go.Proofs.YtpmbacgdbnfeeaaW.PrintMore
set_option linter.unusedVariables false
set_option linter.unusedSimpArgs false
def LossRel (ls : List Bool) (v3 v21 : Value) : Prop := ∃ j : Nat, v3 = .int .i64 (lossN (ls.take j) : Nat) ∧ v21 = .int .i64 j ∧ j ≤ ls.length
theorem lossN_succ {ls : List Bool} {j : Nat} {b : Bool} (h : ls[j]? = some b) : lossN (ls.take (j + 1)) = lossN (ls.take j) + (if b = true then 1 else 0) := by
  unfold lossN
  rw [List.take_add_one, h, List.countP_append]
  cases b <;> simp
theorem lossN_le (ls : List Bool) : lossN ls ≤ ls.length := List.countP_le_length
set_option maxHeartbeats 4000000 in
theorem mloss_any {w : World} {base g : Nat} {bs : Option Nat} {s : Mt} {k : Nat} (h : MtIs w base g bs s) (ho : MtOk s k) : Calls Try.prog 20 #[.pointer (some ⟨g, 0, none⟩)] w fun e w' => e = .returned (.int .i64 s.loss) ∧ Below w.heap.size w w' := by
  obtain ⟨l, vl, vs, _, _, _, h4⟩ := h
  have h6 := h4.c6
  dsimp only at h6
  have hl := ho.lsn
  obtain ⟨V, hV⟩ : ∃ V, V = s.loss := ⟨_, rfl⟩
  unfold Mt.loss at hV
  rw [show s.loss = V from by rw [hV]; rfl]
  generalize s.ls = ls at *
  obtain ⟨n, hn⟩ : ∃ n, n = ls.length := ⟨_, rfl⟩
  have HN := Aside0.mk hn
  have HV := Aside0.mk hV
  have HR := h4.rs
  dsimp only at HR
  rw [← hn] at HR hl
  clear h4 ho hV hn
  by_cases h0 : n = 0
  · subst h0
    obtain ⟨A, c, rfl, _, _⟩ := HR.form
    clear HR
    go_enter Try.func20, Try.ntmps20
    go_wp2_with fail
    all_goals go_ret
    refine ⟨ret_int ?_, Below.refl _ _⟩
    rw [HV.out, if_pos HN.out.symm]
  · obtain ⟨b5, off5, c, rfl, _, hnc, hcm, hx⟩ := HR.some_ (by omega)
    have HX := Aside0.mk hx
    have d0 : ((n : Int) == 0) = false := by simp; omega
    clear HR hx
    go_enter Try.func20, Try.ntmps20
    go_wp2_with fail
    go_loopw [3, 5, 21] (fun v3 v5 v21 wr => LossRel ls v3 v21 ∧ Aside0 (Below w.heap.size w wr)) (fun _ _ v _ => n - (intOf v).toNat)
    case atStart => exact ⟨⟨0, by simp [lossN], rfl, by omega⟩, ⟨Below.refl _ _⟩⟩
    case round =>
      obtain ⟨⟨j, rfl, rfl, hj⟩, HB⟩ := hrel
      have hnl := HN.out
      by_cases hlt : j < n
      · obtain ⟨b, hb⟩ : ∃ b, ls[j]? = some b := ⟨ls[j]'(by omega), List.getElem?_eq_getElem (by omega)⟩
        have hc := HX.out j _ (boolV_get hb)
        have hblt : b5 < w.heap.size := World.block_lt_of_cell? w _ hc
        have t0 : wr.cell? ⟨b5, off5 + j, none⟩ = some (.bool b) := by
          rw [World.cell?_of_block (w := w) (HB.out.block _ hblt)]
          exact hc
        have q1 : decide ((j : Int) < (n : Int)) = true := by simp; omega
        have hs := lossN_succ hb
        have hle := lossN_le (ls.take j)
        have hle2 : (ls.take j).length ≤ 64 := by rw [List.length_take]; omega
        obtain ⟨L, hL⟩ : ∃ L, L = lossN (ls.take j) := ⟨_, rfl⟩
        rw [← hL] at hs hle ⊢
        have HS := Aside0.mk hs
        clear hs hc hb hL
        cases b
        · go_wp2_with fail
          exact ⟨⟨⟨j + 1, by rw [HS.out]; simp, by simp, by omega⟩, ⟨HB.out⟩⟩, by simp [intOf]; omega⟩
        · go_wp2_with fail
          exact ⟨⟨⟨j + 1, by rw [HS.out]; simp, by simp, by omega⟩, ⟨HB.out⟩⟩, by simp [intOf]; omega⟩
      · have q1 : decide ((j : Int) < (n : Int)) = false := by simp; omega
        have e : j = n := by omega
        subst e
        have ht : ls.take j = ls := by rw [List.take_of_length_le]; omega
        rw [ht]
        have hle := lossN_le ls
        have h6' : wr.cell? ⟨g, 6, none⟩ = some (.slice (some ⟨b5, off5, none⟩) j c) := by
          rw [World.cell?_of_block (w := w) (HB.out.block _ (World.block_lt_of_cell? w _ h6))]
          exact h6
        have hv := HV.out
        rw [if_neg (by omega), ← hnl] at hv
        have HV2 := Aside0.mk hv
        generalize lossN ls = L at *
        clear hv
        go_wp2_with fail
        all_goals go_ret
        refine ⟨ret_int ?_, HB.out⟩
        rw [HV2.out, hnl]
theorem mloss_nil (w : World) : Calls Try.prog 20 #[.pointer none] w fun e w' => e = .returned (.int .i64 0) ∧ w' = w := by
  go_enter Try.func20, Try.ntmps20
  go_wp2
  go_ret
  exact ⟨rfl, rfl⟩
set_option maxRecDepth 100000 in
theorem mgot_bad {w : World} {A : Option Addr} (came size : Int) (h : A = none ∨ goodS came size = false) : Calls Try.prog 10 #[.pointer A, .int .i64 came, .int .i64 size] w fun e w' => e = .returned (.tuple #[]) ∧ w' = w := by
  cases A with
  | none =>
    clear h
    go_enter Try.func10, Try.ntmps10
    go_wp2_with fail
    (try simp only [Exit.inBlock, Exit.then]); refine bodyPost_ret (results_none rfl _ _ _) rfl ?_
    exact ⟨rfl, rfl⟩
  | some p =>
    have h : ¬ (0 ≤ size ∧ size ≤ 1500 ∧ -1125899906842624 ≤ came ∧ came ≤ 1125899906842624) := by
      rcases h with h | h
      · cases h
      · simpa [goodS] using h
    have hc : size < 0 ∨ (0 ≤ size ∧ 1500 < size) ∨ (0 ≤ size ∧ size ≤ 1500 ∧ came < -1125899906842624) ∨ (0 ≤ size ∧ size ≤ 1500 ∧ -1125899906842624 ≤ came ∧ 1125899906842624 < came) := by omega
    clear h
    rcases hc with h1 | ⟨h1, h2⟩ | ⟨h1, h2, h3⟩ | ⟨h1, h2, h3, h4⟩
    all_goals
      go_enter Try.func10, Try.ntmps10
      go_wp2_with fail
      all_goals first | (exfalso; omega) | skip
      all_goals ((try simp only [Exit.inBlock, Exit.then]); refine bodyPost_ret (results_none rfl _ _ _) rfl ?_)
      all_goals exact ⟨rfl, rfl⟩
end Go.Proofs.Ytpmbacgdbnfeeaa.B
