/-
  The second controller: Update whole; what shows that the laws' values are awake; the law of what nobody made, the law of the warps, the law of the fast way. Walks over the program.
-/
import Derived.Test.YtbdnbndmiekejaaDoorVd
namespace Go.Proofs.YtbdnbndmiekejaaDoor.B
open Go.RowKit Go.Proofs.YtbdnbndmiekejaaDoorW.PrintWords Go.Proofs.YtbdnbndmiekejaaDoorW.PrintLast Go.Proofs.YtbdnbndmiekejaaDoorW.PrintMore
set_option linter.unusedVariables false
set_option linter.unusedSimpArgs false
structure NdOk (s : Nd) : Prop where
  lo1 : 1 ≤ s.lo
  r0 : s.lo ≤ s.rate
  r1 : s.rate ≤ s.hi
  hi1 : s.hi ≤ 17179869184
  sg : I64 s.sig
def rampsB (d loss : Int) (ecn : Bool) : Bool := (cl loss 0 256 == 0) && !ecn && decide (cl d 0 1000000 < 10000)
/-- What Update leaves. -/
structure NdNext (s s' : Nd) (d loss got rtt : Int) (ecn : Bool) : Prop where
  lo : s'.lo = s.lo
  hi : s'.hi = s.hi
  ok : NdOk s'
  ramps : s'.ramps = rampsB d loss ecn
  ramp : rampsB d loss ecn = true → s'.rate = cl (rampI s.rate (cl got 0 17179869184) (cl rtt 1000 1000000)) s.lo s.hi
theorem ramp_any (w0 w : World) (g : Nat) (rate lo hi sig last got rtt : Int) (any ramps : Bool) (h : NdRun w0 w g ⟨rate, lo, hi, sig, any, last, ramps⟩) (r0 : 1 ≤ rate) (r1 : rate ≤ 17179869184) (g0 : 0 ≤ got) (g1 : got ≤ 17179869184) (t0 : 1000 ≤ rtt) (t1 : rtt ≤ 1000000) :
    Calls Tryd.prog 24 #[.pointer (some ⟨g, 0, none⟩), .int .i64 got, .int .i64 rtt] w fun e w' => e = .returned (.tuple #[]) ∧ NdRun w0 w' g ⟨rampI rate got rtt, lo, hi, sig, any, last, ramps⟩ := by
  have hg := gam_range rtt t0 t1
  have hm : min got 1073741824 ≤ 1073741824 := by omega
  have hm0 : 0 ≤ min got 1073741824 := by omega
  have e2 : hold ((rtt + 100000) * 4294967296) = (rtt + 100000) * 4294967296 := hold_in (by omega) (by omega)
  have e4 : hold (min got 1073741824 * 4294967296) = min got 1073741824 * 4294967296 := hold_in (by omega) (by omega)
  refine ramp_walk w0 w g rate lo hi sig last got rtt ((rtt + 100000) * 4294967296) _ (gamI rtt) (min got 1073741824) (min got 1073741824 * 4294967296) (mdo (min got 1073741824 * 4294967296) (4294967296 + gamI rtt) 4294967296 2) _ _ (rampI rate got rtt) any ramps ⟨h⟩ r0 r1 rfl rfl rfl ?_ ⟨fun w => ?_⟩ ⟨fun w => ?_⟩ ⟨fun w => fdiv_any 214748364800000 ((rtt + 100000) * 4294967296) (by decide) (by unfold I64; omega) w⟩ ⟨fun w => ?_⟩ ⟨fun w => ?_⟩ ⟨fun w => fint_any _ (mdo_range _ _ _ _) w⟩
  · unfold rampI
    rw [Int.tdiv_eq_ediv_of_nonneg (by omega)]
  · have := fof_any 50000 (by decide) w
    rw [show hold (50000 * 4294967296) = 214748364800000 by decide] at this
    exact this
  · rw [w64r (rtt + 100000) (by omega)]
    have := fof_any (rtt + 100000) (by unfold I64; omega) w
    rw [e2] at this
    exact this
  · have := fof_any (min got 1073741824) (by unfold I64; omega) w
    rw [e4] at this
    exact this
  · rw [w64r (4294967296 + gamI rtt) (by omega)]
    exact fmul_any _ _ (by unfold I64; omega) (by unfold I64; omega) w
theorem gradual_any (w0 w : World) (g : Nat) (rate lo hi sig last x dt : Int) (any ramps : Bool) (h : NdRun w0 w g ⟨rate, lo, hi, sig, any, last, ramps⟩) (ir : I64 rate) (ih : I64 hi) (is : I64 sig) (ix : I64 x) (it : I64 dt) :
    Calls Tryd.prog 25 #[.pointer (some ⟨g, 0, none⟩), .int .i64 x, .int .i64 dt] w fun e w' => e = .returned (.tuple #[]) ∧ NdRun w0 w' g ⟨hold (hold (rate - mdo rate (hold (hold (x - mdo 10000 hi rate 1) * dt)) 500000000000 2) - mdo rate (hold (2 * hold (x - sig))) 1000000 2), lo, hi, sig, any, last, ramps⟩ := by
  refine gradual_walk w0 w g rate lo hi sig last x dt _ _ _ _ _ _ _ _ _ any ramps ⟨h⟩ ⟨fun w => do_any 10000 hi rate 1 (by decide) ih ir w⟩ ⟨fun w => sub_any x _ ix (mdo_range _ _ _ _) w⟩ ⟨fun w => sub_any x sig ix is w⟩ ⟨fun w => satmul_any _ dt (hold_i64 _) it w⟩ ⟨fun w => ?_⟩ ⟨fun w => satmul_any 2 _ (by decide) (hold_i64 _) w⟩ ⟨fun w => ?_⟩ ⟨fun w => sub_any rate _ ir (mdo_range _ _ _ _) w⟩ ⟨fun w => sub_any _ _ (hold_i64 _) (mdo_range _ _ _ _) w⟩
  · rw [w64r 1000000 (by omega), w64r (1000000 * 500000) (by omega)]
    exact do_any rate _ 500000000000 2 ir (hold_i64 _) (by decide) w
  · rw [w64r 1000000 (by omega)]
    exact do_any rate _ 1000000 2 ir (hold_i64 _) (by decide) w
theorem update_run {w0 w : World} {g : Nat} {s : Nd} (d loss got rtt now : Int) (ecn : Bool) (h : NdRun w0 w g s) (hok : NdOk s) : Calls Tryd.prog 12 #[.pointer (some ⟨g, 0, none⟩), .int .i64 d, .int .i64 loss, .bool ecn, .int .i64 got, .int .i64 rtt, .int .i64 now] w fun e w' =>
    ∃ s' : Nd, e = .returned (.int .i64 s'.rate) ∧ NdRun w0 w' g s' ∧ NdNext s s' d loss got rtt ecn := by
  obtain ⟨rate, lo, hi, sig, any, last, ramps⟩ := s
  obtain ⟨q1, q2, q3, q4, q5⟩ := hok
  dsimp only at q1 q2 q3 q4 q5
  have hr := cl_range (a := rtt) (lo := 1000) (hi := 1000000) (by omega)
  have hg := cl_range (a := got) (lo := 0) (hi := 17179869184) (by omega)
  have hl := cl_range (a := loss) (lo := 0) (hi := 256) (by omega)
  have hd := cl_range (a := d) (lo := 0) (hi := 1000000) (by omega)
  have hs := sig_range (cl d 0 1000000) (cl loss 0 256) ecn hd.1 hd.2 hl.1 hl.2
  have ix : I64 (sigI (cl d 0 1000000) (cl loss 0 256) ecn) := by unfold I64; omega
  have hdt := cl_range (a := wrap64 (cl now 0 1125899906842624 - last)) (lo := 0) (hi := 100000) (by omega)
  have it : I64 (if any = true then cl (wrap64 (cl now 0 1125899906842624 - last)) 0 100000 else 0) := by
    unfold I64
    split <;> omega
  have key : ∀ (R1 : Int) (CR : rampsB d loss ecn = true → ∀ w, NdRun w0 w g ⟨rate, lo, hi, sig, true, cl now 0 1125899906842624, rampsB d loss ecn⟩ → Calls Tryd.prog 24 #[.pointer (some ⟨g, 0, none⟩), .int .i64 (cl got 0 17179869184), .int .i64 (cl rtt 1000 1000000)] w fun e w' => e = .returned (.tuple #[]) ∧ NdRun w0 w' g ⟨R1, lo, hi, sig, true, cl now 0 1125899906842624, rampsB d loss ecn⟩)
      (CG : rampsB d loss ecn = false → ∀ w, NdRun w0 w g ⟨rate, lo, hi, sig, true, cl now 0 1125899906842624, rampsB d loss ecn⟩ → Calls Tryd.prog 25 #[.pointer (some ⟨g, 0, none⟩), .int .i64 (sigI (cl d 0 1000000) (cl loss 0 256) ecn), .int .i64 (if any = true then cl (wrap64 (cl now 0 1125899906842624 - last)) 0 100000 else 0)] w fun e w' => e = .returned (.tuple #[]) ∧ NdRun w0 w' g ⟨R1, lo, hi, sig, true, cl now 0 1125899906842624, rampsB d loss ecn⟩),
      Calls Tryd.prog 12 #[.pointer (some ⟨g, 0, none⟩), .int .i64 d, .int .i64 loss, .bool ecn, .int .i64 got, .int .i64 rtt, .int .i64 now] w fun e w' => e = .returned (.int .i64 (cl R1 lo hi)) ∧ NdRun w0 w' g ⟨cl R1 lo hi, lo, hi, sigI (cl d 0 1000000) (cl loss 0 256) ecn, true, cl now 0 1125899906842624, rampsB d loss ecn⟩ := by
    intro R1 CR CG
    exact update_walk w0 w g rate lo hi sig last d loss got rtt now _ _ _ _ _ _ _ R1 _ any ramps ecn _ ⟨h⟩ rfl ⟨fun w => clamp_any rtt 1000 1000000 w⟩ ⟨fun w => clamp_any got 0 17179869184 w⟩ ⟨fun w => clamp_any now 0 1125899906842624 w⟩ ⟨fun w => clamp_any _ 0 100000 w⟩ ⟨fun w => clamp_any loss 0 256 w⟩ ⟨fun w => clamp_any d 0 1000000 w⟩ ⟨fun w => clamp_any R1 lo hi w⟩ ⟨fun w hw => signal_any d loss ecn w hw⟩ ⟨CR⟩ ⟨CG⟩
  cases hb : rampsB d loss ecn with
  | true =>
    have hk := key (rampI rate (cl got 0 17179869184) (cl rtt 1000 1000000)) (fun _ w hw => ramp_any w0 w g rate lo hi sig _ _ _ true _ hw (by omega) (by omega) hg.1 hg.2 hr.1 hr.2) (fun hf => by rw [hb] at hf; cases hf)
    refine hk.mono ?_
    rintro e w' ⟨he, hn⟩
    have hc := cl_range (a := rampI rate (cl got 0 17179869184) (cl rtt 1000 1000000)) (lo := lo) (hi := hi) (by omega)
    exact ⟨_, he, hn, rfl, rfl, ⟨q1, hc.1, hc.2, q4, ix⟩, rfl, fun _ => rfl⟩
  | false =>
    have hk := key _ (fun hf => by rw [hb] at hf; cases hf) (fun _ w hw => gradual_any w0 w g rate lo hi sig _ _ _ true _ hw (by unfold I64; omega) (by unfold I64; omega) q5 ix it)
    refine hk.mono ?_
    rintro e w' ⟨he, hn⟩
    have hc := cl_range (a := hold (hold (rate - mdo rate (hold (hold (sigI (cl d 0 1000000) (cl loss 0 256) ecn - mdo 10000 hi rate 1) * (if any = true then cl (wrap64 (cl now 0 1125899906842624 - last)) 0 100000 else 0))) 500000000000 2) - mdo rate (hold (2 * hold (sigI (cl d 0 1000000) (cl loss 0 256) ecn - sig))) 1000000 2)) (lo := lo) (hi := hi) (by omega)
    exact ⟨_, he, hn, rfl, rfl, ⟨q1, hc.1, hc.2, q4, ix⟩, rfl, fun hf => by rw [hb] at hf; cases hf⟩
theorem made_okNd (start lo hi : Int) (h : goodNd start lo hi = true) : NdOk (Nd.made start lo hi) := by
  simp only [goodNd, decide_eq_true_eq] at h
  obtain ⟨h1, h2, h3, h4⟩ := h
  exact ⟨h1, h2, h3, h4, by show I64 0; decide⟩
theorem ndnew_run {w0 w : World} (start lo hi : Int) (h : goodNd start lo hi = true) (hT : Tabs w0) (hB : Below w0.heap.size w0 w) : Calls Tryd.prog 11 #[.int .i64 start, .int .i64 lo, .int .i64 hi] w fun e w' => ∃ g : Nat, e = .returned (.tuple #[.pointer (some ⟨g, 0, none⟩), .int .i64 0]) ∧ NdRun w0 w' g (Nd.made start lo hi) := by
  refine (ndnew_good start lo hi w h).mono ?_
  rintro e w' ⟨g, he, hg, hs, hb⟩
  exact ⟨g, he, hs, Nat.le_trans hB.size hg, hT, hB.trans (hb.mono hB.size)⟩
theorem wk_ramps : rampsB 0 0 false = true := by decide
theorem wk_rate : cl (rampI (Nd.made 1000000 1000 5000000).rate (cl 1000000 0 17179869184) (cl 100000 1000 1000000)) (Nd.made 1000000 1000 5000000).lo (Nd.made 1000000 1000 5000000).hi = 1250000 := by decide +kernel
theorem wk_sig : sigI (cl 30000 0 1000000) (cl 0 0 256) false = 30000 := by decide +kernel
theorem wakes_any (w : World) (hT : Tabs w) : Calls Tryd.prog 10 #[] w fun e w' => e = .returned (.bool true) ∧ Below w.heap.size w w' := by
  have HT := Aside0.mk hT
  clear hT
  go_enter Tryd.func10, Tryd.ntmps10
  go_wp2_with fail
  refine (ndnew_run (w0 := w) 1000000 1000 5000000 (by decide) HT.out (Below.refl _ _)).mono ?_
  rintro e w1 ⟨g, rfl, h1⟩
  have H1 := Aside0.mk h1
  clear h1
  go_wp2_with fail
  refine (signal_any 30000 0 false _ H1.out.tabs).mono ?_
  rintro e w2 ⟨rfl, hb⟩
  rw [wk_sig]
  have H2 := Aside0.mk (H1.out.below hb)
  clear hb
  go_wp2_with fail
  refine (update_run 0 0 1000000 100000 0 false H2.out (made_okNd _ _ _ (by decide))).mono ?_
  rintro e w3 ⟨s3, rfl, h3, hn⟩
  rw [hn.ramp wk_ramps, wk_rate]
  have er := hn.ramps
  rw [wk_ramps] at er
  have H3 := Aside0.mk h3
  have ER := Aside0.mk er
  clear h3 hn er
  go_wp2_with fail
  refine (ndramps_any g s3 _ H3.out.1).mono ?_
  rintro e w4 ⟨rfl, rfl⟩
  rw [ER.out]
  go_wp2_with fail
  go_ret
  exact ⟨rfl, H3.out.b⟩
theorem none_true (d loss : Int) (ecn : Bool) (got rtt now : Int) (w : World) (hT : Tabs w) (_ : I64 d) (_ : I64 loss) (_ : I64 got) (_ : I64 rtt) (_ : I64 now) : Calls Tryd.prog 6 #[.agg #[.int .i64 d, .int .i64 loss, .bool ecn, .int .i64 got, .int .i64 rtt, .int .i64 now]] w fun e w' => e = .returned (.bool true) ∧ Below w.heap.size w w' := by
  have HT := Aside0.mk hT
  clear hT
  go_enter Tryd.func6, Tryd.ntmps6
  go_wp2_with fail
  refine (ndupdate_nil _ _ _ _ _ _ _).mono ?_
  rintro e1 w1 ⟨rfl, rfl⟩
  go_wp2_with fail
  refine (ndrate_nil _).mono ?_
  rintro e1 w1 ⟨rfl, rfl⟩
  go_wp2_with fail
  refine (ndramps_nil _).mono ?_
  rintro e1 w1 ⟨rfl, rfl⟩
  go_wp2_with fail
  refine (wakes_any _ (HT.out.below ((Below.refl _ _).alloc (Nat.le_refl _) _))).mono ?_
  rintro e1 w1 ⟨rfl, hB⟩
  go_wp2_with fail
  go_ret
  exact ⟨rfl, ((Below.refl _ _).alloc (Nat.le_refl _) _).trans (hB.mono (by simp))⟩
end Go.Proofs.YtbdnbndmiekejaaDoor.B
