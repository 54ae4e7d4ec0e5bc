/-
  A meter, call by call; what shows that the laws' values are awake; the law of a meter that nobody made. Walks over the program.
-/
import Derived.Test.YtpmbacgdbnfeeaaRg
import Derived.Test.YtpmbacgdbnfeeaaRw
namespace Go.Proofs.Ytpmbacgdbnfeeaa.B
open Go.RowKit Go.Proofs.YtpmbacgdbnfeeaaW.PrintWords Go.Proofs.YtpmbacgdbnfeeaaW.PrintLast Go.Proofs.YtpmbacgdbnfeeaaW.PrintMore
set_option linter.unusedVariables false
set_option linter.unusedSimpArgs false
/-- A meter whose losses' row, if it has one, is new since w1: since then nothing but the meter has changed. -/
def MRun (w1 w : World) (base g : Nat) (s : Mt) : Prop := ∃ bs, MtIs w base g bs s ∧ (∀ k, bs = some k → w1.heap.size ≤ k) ∧ Touch (fun k => k = g) w1 w
theorem MRun.start {w1 : World} {base g : Nat} {s : Mt} (h : MtIs w1 base g none s) : MRun w1 w1 base g s := ⟨none, h, fun k hk => (by cases hk), Touch.refl _ _⟩
theorem MRun.touch {w1 w : World} {base g : Nat} {s : Mt} (h : MRun w1 w base g s) : Touch (fun k => k = g) w1 w := by
  obtain ⟨_, _, _, h⟩ := h
  exact h
theorem MRun.lt {w1 w : World} {base g : Nat} {s : Mt} (h : MRun w1 w base g s) : g < w.heap.size ∧ base ≤ g := by
  obtain ⟨bs, h, _, _⟩ := h
  exact h.lt
theorem MRun.below {w1 w w' : World} {base g : Nat} {s : Mt} (h : MRun w1 w base g s) (hb : Below w.heap.size w w') : MRun w1 w' base g s := by
  obtain ⟨bs, h1, h2, h3⟩ := h
  exact ⟨bs, h1.below hb, h2, h3.below hb⟩
theorem MRun.go {w1 w w' : World} {base g : Nat} {s' : Mt} {bs : Option Nat} (h2 : ∀ k, bs = some k → w1.heap.size ≤ k) (h3 : Touch (fun k => k = g) w1 w) (k : MtGo w w' base g bs s') : MRun w1 w' base g s' := by
  obtain ⟨bs', k1, k2, k3⟩ := k
  refine ⟨bs', k1, fun j hj => ?_, h3.trans k2 (fun i hi => ?_)⟩
  · rcases k3 j hj with q | q
    · exact h2 j q
    · exact Nat.le_trans h3.size q
  · rcases hi with q | q
    · exact .inl q
    · exact .inr (h2 i q)
theorem mrun_got {w1 w : World} {base g : Nat} {s : Mt} {k : Nat} (came size : Int) (h : MRun w1 w base g s) (ho : MtOk s k) (hk : k ≤ 4095) : Calls Try.prog 10 #[.pointer (some ⟨g, 0, none⟩), .int .i64 came, .int .i64 size] w fun e w' => e = .returned (.tuple #[]) ∧ MRun w1 w' base g (s.got came size) := by
  obtain ⟨bs, h1, h2, h3⟩ := h
  refine (mgot_any came size h1 ho hk).mono ?_
  rintro e w' ⟨he, hG⟩
  exact ⟨he, MRun.go h2 h3 hG⟩
theorem mrun_lost {w1 w : World} {base g : Nat} {s : Mt} {k : Nat} (n : Int) (h : MRun w1 w base g s) (ho : MtOk s k) : Calls Try.prog 12 #[.pointer (some ⟨g, 0, none⟩), .int .i64 n] w fun e w' => e = .returned (.tuple #[]) ∧ MRun w1 w' base g (s.lost n) := by
  obtain ⟨bs, h1, h2, h3⟩ := h
  unfold Mt.lost
  by_cases hn : 0 ≤ n ∧ n ≤ 4096
  · rw [if_pos hn]
    have e : n = ((n.toNat : Nat) : Int) := by omega
    have hc := mlost_good n.toNat h1 ho (by omega)
    rw [← e] at hc
    refine hc.mono ?_
    rintro e w' ⟨he, hG⟩
    exact ⟨he, MRun.go h2 h3 hG⟩
  · rw [if_neg hn]
    refine (mlost_bad (w := w) (A := some ⟨g, 0, none⟩) n (by omega)).mono ?_
    rintro e w' ⟨he, rfl⟩
    exact ⟨he, ⟨bs, h1, h2, h3⟩⟩
theorem mrun_rate {w1 w : World} {base g : Nat} {s : Mt} {k : Nat} (h : MRun w1 w base g s) (ho : MtOk s k) (hk : k ≤ 4096) : Calls Try.prog 14 #[.pointer (some ⟨g, 0, none⟩)] w fun e w' => e = .returned (.int .i64 s.rate) ∧ MRun w1 w' base g s ∧ Below w.heap.size w w' := by
  obtain ⟨bs, h1, h2, h3⟩ := h
  refine (mrate_any h1 ho hk).mono ?_
  rintro e w' ⟨he, hB⟩
  exact ⟨he, MRun.below ⟨bs, h1, h2, h3⟩ hB, hB⟩
theorem mrun_bytes {w1 w : World} {base g : Nat} {s : Mt} (h : MRun w1 w base g s) : Calls Try.prog 16 #[.pointer (some ⟨g, 0, none⟩)] w fun e w' => e = .returned (.int .i64 (sumS s.l)) ∧ MRun w1 w' base g s ∧ Below w.heap.size w w' := by
  obtain ⟨bs, h1, h2, h3⟩ := h
  refine (mbytes_any h1).mono ?_
  rintro e w' ⟨he, rfl⟩
  exact ⟨he, ⟨bs, h1, h2, h3⟩, Below.refl _ _⟩
theorem mrun_full {w1 w : World} {base g : Nat} {s : Mt} {k : Nat} (h : MRun w1 w base g s) (ho : MtOk s k) : Calls Try.prog 18 #[.pointer (some ⟨g, 0, none⟩)] w fun e w' => e = .returned (.bool s.full) ∧ MRun w1 w' base g s ∧ Below w.heap.size w w' := by
  obtain ⟨bs, h1, h2, h3⟩ := h
  refine (mfull_any h1 ho).mono ?_
  rintro e w' ⟨he, hB⟩
  exact ⟨he, MRun.below ⟨bs, h1, h2, h3⟩ hB, hB⟩
theorem mrun_loss {w1 w : World} {base g : Nat} {s : Mt} {k : Nat} (h : MRun w1 w base g s) (ho : MtOk s k) : Calls Try.prog 20 #[.pointer (some ⟨g, 0, none⟩)] w fun e w' => e = .returned (.int .i64 s.loss) ∧ MRun w1 w' base g s ∧ Below w.heap.size w w' := by
  obtain ⟨bs, h1, h2, h3⟩ := h
  refine (mloss_any h1 ho).mono ?_
  rintro e w' ⟨he, hB⟩
  exact ⟨he, MRun.below ⟨bs, h1, h2, h3⟩ hB, hB⟩
/-- What the call that wakes makes. -/
def wk : Mt := (((Mt.made 100000).got 0 1000).got 10000 1000).lost 2
theorem wk_rate : wk.rate = 1600000 := by decide +kernel
theorem wk_bytes : sumS wk.l = 2000 := by decide +kernel
theorem wk_full : wk.full = false := by decide +kernel
theorem wk_loss : wk.loss = 128 := by decide +kernel
set_option maxHeartbeats 1000000 in
theorem wakes_any (w : World) : Calls Try.prog 22 #[] w fun e w' => e = .returned (.bool true) ∧ Below w.heap.size w w' := by
  go_enter Try.func22, Try.ntmps22
  go_wp2_with fail
  refine (mnew_good 100000 w.heap.size w (by omega) (by omega) (Nat.le_refl _)).mono ?_
  rintro e w1 ⟨g, rfl, hM, hg, hB⟩
  have HR := Aside0.mk (MRun.start hM)
  have O0 := made_okM (window := 100000) (by omega) (by omega)
  have O1 := O0.got 0 1000
  have O2 := O1.got 10000 1000
  have O3 := O2.lost 2
  have OK := Aside0.mk (And.intro O0 (And.intro O1 (And.intro O2 O3)))
  have HB := Aside0.mk hB
  clear hM O0 O1 O2 O3 hB
  go_wp2_with fail
  refine (mrun_got 0 1000 HR.out OK.out.1 (by omega)).mono ?_
  rintro e w2 ⟨rfl, h2⟩
  have H2 := Aside0.mk h2
  clear h2
  go_wp2_with fail
  refine (mrun_got 10000 1000 H2.out OK.out.2.1 (by omega)).mono ?_
  rintro e w3 ⟨rfl, h3⟩
  have H3 := Aside0.mk h3
  clear h3
  go_wp2_with fail
  refine (mrun_lost 2 H3.out OK.out.2.2.1).mono ?_
  rintro e w4 ⟨rfl, h4⟩
  have H4 : Aside0 (MRun w1 w4 w.heap.size g wk) := ⟨h4⟩
  have O4 : Aside0 (MtOk wk 2) := ⟨OK.out.2.2.2⟩
  clear h4 OK
  go_wp2_with fail
  refine (mrun_rate H4.out O4.out (by omega)).mono ?_
  rintro e w5 ⟨rfl, h5, _⟩
  rw [wk_rate]
  have H5 := Aside0.mk h5
  clear h5
  go_wp2_with fail
  refine (mrun_bytes H5.out).mono ?_
  rintro e w6 ⟨rfl, h6, _⟩
  rw [wk_bytes]
  have H6 := Aside0.mk h6
  clear h6
  go_wp2_with fail
  refine (mrun_full H6.out O4.out).mono ?_
  rintro e w7 ⟨rfl, h7, _⟩
  rw [wk_full]
  have H7 := Aside0.mk h7
  clear h7
  go_wp2_with fail
  refine (mrun_loss H7.out O4.out).mono ?_
  rintro e w8 ⟨rfl, h8, _⟩
  rw [wk_loss]
  go_wp2_with fail
  go_ret
  exact ⟨rfl, HB.out.trans (h8.touch.toBelow HB.out.size (fun i hi => by omega))⟩
theorem mgot_nil (came size : Int) (w : World) : Calls Try.prog 10 #[.pointer none, .int .i64 came, .int .i64 size] w fun e w' => e = .returned (.tuple #[]) ∧ w' = w := mgot_bad came size (.inl rfl)
set_option maxHeartbeats 1000000 in
theorem none_true (came n : Int) (w : World) (_ : I64 came) (_ : I64 n) : Calls Try.prog 6 #[.int .i64 came, .int .i64 n] w fun e w' => e = .returned (.bool true) ∧ Below w.heap.size w w' := by
  go_enter Try.func6, Try.ntmps6
  go_wp2_with fail
  refine (mgot_nil _ _ _).mono ?_
  rintro e1 w1 ⟨rfl, rfl⟩
  go_wp2_with fail
  refine (mlost_nil _ _).mono ?_
  rintro e1 w1 ⟨rfl, rfl⟩
  go_wp2_with fail
  refine (mrate_nil _).mono ?_
  rintro e1 w1 ⟨rfl, rfl⟩
  go_wp2_with fail
  refine (mbytes_nil _).mono ?_
  rintro e1 w1 ⟨rfl, rfl⟩
  go_wp2_with fail
  refine (mloss_nil _).mono ?_
  rintro e1 w1 ⟨rfl, rfl⟩
  go_wp2_with fail
  refine (mfull_nil _).mono ?_
  rintro e1 w2 ⟨rfl, hB⟩
  go_wp2_with fail
  refine (wakes_any _).mono ?_
  rintro e1 w3 ⟨rfl, hB2⟩
  go_wp2_with fail
  go_ret
  exact ⟨rfl, hB.trans (hB2.mono hB.size)⟩
end Go.Proofs.Ytpmbacgdbnfeeaa.B
