/-
  The second controller: the law of the fast way. Walk over the program.
-/
import Derived.Test.YtbdnbndmiekejaaDoorVe
namespace Go.Proofs.YtbdnbndmiekejaaDoor.B
open Go.RowKit Go.Proofs.YtbdnbndmiekejaaDoorW.PrintWords Go.Proofs.YtbdnbndmiekejaaDoorW.PrintLast Go.Proofs.YtbdnbndmiekejaaDoorW.PrintMore
set_option linter.unusedVariables false
set_option linter.unusedSimpArgs false
theorem fast_law (start lo hi g w : Int) (h1 : 1 ≤ lo) (h2 : lo ≤ start) (h3 : start ≤ hi) (h4 : hi ≤ 17179869184) (g0 : 0 ≤ g) (g1 : g < 1073741824) (w0 : 1000 ≤ w) (w1 : w ≤ 1000000) :
    cl (rampI start (cl g 0 17179869184) (cl w 1000 1000000)) lo hi ≤ min (min (max start (g + g / 2 + 1)) (3 * start / 2 + 10000)) hi ∧ min (min (max start (g + g * 40000 / (w + 100000))) (3 * start / 2 + 10000)) hi ≤ cl (rampI start (cl g 0 17179869184) (cl w 1000 1000000)) lo hi := by
  rw [cl_in (a := g) (by omega) (by omega), cl_in (a := w) w0 w1, ramp_is start g w g0 g1 w0 w1 (by omega)]
  have a := gam_low g w g0 w0 w1
  have b := gam_high g w g0 w0 w1
  generalize g * gamI w / 4294967296 = P at *
  generalize g * 40000 / (w + 100000) = Q at *
  unfold cl
  split
  · omega
  · split <;> omega
theorem run_min3 (ats : Array TypeId) (ty : TypeId) (w : World) (a b c v : Int) (h : min (min a b) c = v) : Sem.run Tryd.prog (Builtin.min_ ats ty #[.int .i64 a, .int .i64 b, .int .i64 c]) w = .ok (.int .i64 v) w := by
  subst h
  have e : Sem.run Tryd.prog (Builtin.min_ ats ty #[.int .i64 a, .int .i64 b, .int .i64 c]) w = .ok (.int .i64 (if c < (if b < a then b else a) then c else (if b < a then b else a))) w := rfl
  rw [e]
  have q : (if c < (if b < a then b else a) then c else (if b < a then b else a)) = min (min a b) c := by
    rw [Int.min_def, Int.min_def]
    split <;> split <;> split <;> split <;> omega
  rw [q]
theorem quiet_min3 {C : World → Prop} {K : Act → Prop} {a : Act} {o : Oper} {x y z : Operand} {ts : Array TypeId} {p q r v : Int} (h : o.op = .call ⟨.builtin .min, #[x, y, z], ts⟩) (hx : a.eval x = .int .i64 p) (hy : a.eval y = .int .i64 q) (hz : a.eval z = .int .i64 r) (hv : min (min p q) r = v) (hk : K (a.put o.dst (.int .i64 v))) : o.quiet Tryd.prog a C K := by
  refine ⟨_, fun w _ => ?_, hk⟩
  unfold Oper.quietAt
  obtain ⟨dst, op, ty, pos, after, guard⟩ := o
  dsimp only at h
  subst h
  have e : (execOp a.eval ⟨dst, .call ⟨.builtin .min, #[x, y, z], ts⟩, ty, pos, after, guard⟩).run Tryd.prog w = .ok (.value (.int .i64 v)) w := by
    generalize a.eval = f at hx hy hz ⊢
    simp [go_sem, hx, hy, hz]
    rw [run_min3 _ _ _ _ _ _ _ hv]
    rfl
  rw [e]
  exact ⟨rfl, rfl⟩
set_option maxHeartbeats 4000000 in
set_option maxRecDepth 100000 in
theorem fast_good (start lo hi got rtt g wt : Int) (w : World) (hT : Tabs w) (hgood : goodNd start lo hi = true) (hg : g = got % 1073741824) (hw : wt = 1000 + rtt % 999001) (u1 : U32 got) (u2 : U32 rtt) :
    Calls Tryd.prog 4 #[.agg #[.int .i64 start, .int .i64 lo, .int .i64 hi], .int .u32 got, .int .u32 rtt] w fun e w' => e = .returned (.bool true) ∧ Below w.heap.size w w' := by
  have h := hgood
  simp only [goodNd, decide_eq_true_eq] at h
  obtain ⟨h1, h2, h3, h4⟩ := h
  have g0 : 0 ≤ g := by omega
  have g1 : g < 1073741824 := by omega
  have w0 : 1000 ≤ wt := by omega
  have w1 : wt ≤ 1000000 := by omega
  have u3 := u1.1
  have u4 := u1.2
  have u5 := u2.1
  have u6 := u2.2
  have hlaw := fast_law start lo hi g wt h1 h2 h3 h4 g0 g1 w0 w1
  have HG := Aside0.mk hgood
  have HT := Aside0.mk hT
  have EG := Aside0.mk hg
  have EW := Aside0.mk hw
  clear hgood hT hg hw u1 u2
  obtain ⟨most, hmost⟩ : ∃ v, min (min (max start (g + g / 2 + 1)) (3 * start / 2 + 10000)) hi = v := ⟨_, rfl⟩
  obtain ⟨low, hlow⟩ : ∃ v, min (min (max start (g + g * 40000 / (wt + 100000))) (3 * start / 2 + 10000)) hi = v := ⟨_, rfl⟩
  rw [hmost, hlow] at hlaw
  have HMOST := Aside0.mk hmost
  have HLOW := Aside0.mk hlow
  have HLAW := Aside0.mk hlaw
  clear hmost hlow hlaw
  go_enter Tryd.func4, Tryd.ntmps4
  go_wp2_with fail
  have hB0 := Aside0.mk ((Below.refl w.heap.size w).alloc (Nat.le_refl _) (.cells #[.int .i64 start, .int .i64 lo, .int .i64 hi] 28))
  have E0 := Aside0.mk (blk_new w (.cells #[.int .i64 start, .int .i64 lo, .int .i64 hi] 28))
  obtain ⟨lb, hlb⟩ : ∃ b, b = w.heap.size := ⟨_, rfl⟩
  have TA := Aside0.mk (HT.out.below ((Below.refl w.heap.size w).alloc (Nat.le_refl _) (.cells #[.int .i64 start, .int .i64 lo, .int .i64 hi] 28)))
  rw [← hlb] at E0
  refine (ndnew_run start lo hi HG.out TA.out (Below.refl _ _)).mono ?_
  rintro e w1' ⟨gp, rfl, hh1⟩
  rw [← hlb]
  clear hlb
  generalize w.alloc (.cells #[.int .i64 start, .int .i64 lo, .int .i64 hi] 28) = wa at *
  have H1 := Aside0.mk hh1
  clear hh1
  go_wp2_with fail
  rw [← EG.out, ← EW.out]
  refine (update_run 0 0 g wt 5 false H1.out (made_okNd _ _ _ HG.out)).mono ?_
  rintro e w4 ⟨s4, rfl, h4', hn⟩
  have H4 := Aside0.mk h4'
  have X4 := (H4.out.b.block lb (blk_lt E0.out)).trans E0.out
  have x0 := blk_cell X4 0
  have x1 := blk_cell X4 1
  have x2 := blk_cell X4 2
  simp only [List.getElem?_toArray, List.getElem?_cons_zero, List.getElem?_cons_succ] at x0 x1 x2
  have er := hn.ramps
  rw [wk_ramps] at er
  have hr := hn.ramp wk_ramps
  have HR := Aside0.mk er
  obtain ⟨r4, hr4⟩ : ∃ r, r = s4.rate := ⟨_, rfl⟩
  have hl := HLAW.out
  rw [show cl (rampI start (cl g 0 17179869184) (cl wt 1000 1000000)) lo hi = r4 from (hr4.trans hr).symm] at hl
  have HL := Aside0.mk hl
  rw [← hr4]
  clear h4' hn X4 er hr hr4 hl
  go_wp2_with fail
  rw [run_min3 _ _ _ _ _ _ _ HMOST.out]
  go_wp2_with fail
  have hquo : wrap64 (g + g * 40000 / (wt + 100000)) = g + g * 40000 / (wt + 100000) := by
    have q0 : 0 ≤ g * 40000 / (wt + 100000) := Int.ediv_nonneg (by omega) (by omega)
    have q1 : g * 40000 / (wt + 100000) ≤ g := Int.ediv_le_of_le_mul (by omega) (Int.mul_le_mul_of_nonneg_left (by omega) g0)
    exact w64r _ (by omega)
  have z0 : IntKind.i64.wrap (wt + 100000) = wt + 100000 := by rw [IntKind.wrap_i64]; omega
  have z1 : (IntKind.i64.wrap (wt + 100000) == 0) = false := by rw [z0]; simp; omega
  have z2 : (wt + 100000 == 0) = false := by simp; omega
  have z3 : ¬ IntKind.i64.wrap (wt + 100000) = 0 := by rw [z0]; omega
  have z4 : ¬ wt + 100000 = 0 := by omega
  clear z0
  refine wp_region_quiet_lit (by kernel_rfl) (by kernel_rfl) ?_
  repeat (go_big_quiet_step (fail))
  go_big_quiet_want
  refine quiet_min3 (v := low) rfl rfl rfl rfl ?_ ?_
  · exact HLOW.out
  simp only [Act.put, List.setIfInBounds_toArray, List.set_cons_succ, List.set_cons_zero]
  go_big_quiet_on
  repeat (go_big_quiet_step (fail))
  refine wpQuiet_nil ?_
  rintro w5 ⟨nq, rfl⟩
  have H5 := Aside0.mk (H4.out.below ((Below.refl _ _).trans ⟨rfl, rfl, rfl, Nat.le_refl _, fun _ _ => rfl⟩ : Below w4.heap.size w4 (w4.drewN nq)))
  have hl := HL.out
  have d1 : decide (r4 ≤ most) = true := by simp; omega
  have d2 : decide (low ≤ r4) = true := by simp; omega
  clear hl x0 x1 x2 z1 z2 z3 z4 hquo
  go_wp2_with fail
  refine (ndramps_any gp s4 _ H5.out.1).mono ?_
  rintro e w5 ⟨rfl, rfl⟩
  rw [HR.out]
  go_wp2_with fail
  refine (wakes_any _ H5.out.tabs).mono ?_
  rintro e w5 ⟨rfl, hb⟩
  go_wp2_with fail
  go_ret
  have hBw := hB0.out.trans (H5.out.b.mono hB0.out.size)
  exact ⟨rfl, hBw.trans (hb.mono hBw.size)⟩
theorem fast_bad (start lo hi got rtt : Int) (w : World) (hT : Tabs w) (hbad : goodNd start lo hi = false) :
    Calls Tryd.prog 4 #[.agg #[.int .i64 start, .int .i64 lo, .int .i64 hi], .int .u32 got, .int .u32 rtt] w fun e w' => e = .returned (.bool true) ∧ Below w.heap.size w w' := by
  have HG := Aside0.mk hbad
  have HT := Aside0.mk hT
  clear hbad hT
  go_enter Tryd.func4, Tryd.ntmps4
  go_wp2_with fail
  refine (ndnew_bad start lo hi _ HG.out).mono ?_
  rintro e w1 ⟨rfl, rfl⟩
  go_wp2_with fail
  refine (wakes_any _ (HT.out.below ((Below.refl _ _).alloc (Nat.le_refl _) _))).mono ?_
  rintro e w5 ⟨rfl, hB5⟩
  go_wp2_with fail
  go_ret
  exact ⟨rfl, ((Below.refl _ _).alloc (Nat.le_refl _) _).trans (hB5.mono (by simp))⟩
theorem fast_true (start lo hi got rtt : Int) (w : World) (hT : Tabs w) (_ : I64 start) (_ : I64 lo) (_ : I64 hi) (h1 : U32 got) (h2 : U32 rtt) :
    Calls Tryd.prog 4 #[.agg #[.int .i64 start, .int .i64 lo, .int .i64 hi], .int .u32 got, .int .u32 rtt] w fun e w' => e = .returned (.bool true) ∧ Below w.heap.size w w' := by
  cases hg : goodNd start lo hi
  · exact fast_bad start lo hi got rtt w hT hg
  · exact fast_good start lo hi got rtt _ _ w hT hg rfl rfl h1 h2
end Go.Proofs.YtbdnbndmiekejaaDoor.B
