/-
  A meter: where a sample belongs, and a sample whole. Walk over the program.
-/
import Derived.Test.YtpmbacgdbnfeeaaRf
namespace Go.Proofs.Ytpmbacgdbnfeeaa.B
open Go.RowKit Go.Proofs.YtpmbacgdbnfeeaaW.PrintWords Go.Proofs.YtpmbacgdbnfeeaaW.PrintLast Go.Proofs.YtpmbacgdbnfeeaaW.PrintMore
set_option linter.unusedVariables false
set_option linter.unusedSimpArgs false
/-- What a sample leaves. -/
def GotR (w0 : World) (base g : Nat) (bs : Option Nat) (window F1 L1 came size : Int) (vs : Value) (l : List Smp) (ls : List Bool) (e : Ending) (w' : World) : Prop :=
  e = .returned (.tuple #[]) ∧ ∃ l' v2, l'.Perm ((l ++ [(came, size)]).filter (fun p => decide (L1 - window < p.1))) ∧ l'.Pairwise SmpLe ∧ MwRun w0 w' base g bs ⟨window, true, F1, L1, v2, sumS l', vs⟩ l' ls
theorem GotQ.to {w0 w' : World} {base g : Nat} {bs : Option Nat} {window F1 L1 came size : Int} {vs : Value} {l : List Smp} {ls : List Bool} {e : Ending} {k : Nat} (hs : (smpPut l k (came, size)).Pairwise SmpLe) (h : GotQ w0 base g bs window F1 L1 vs (smpPut l k (came, size)) ls e w') : GotR w0 base g bs window F1 L1 came size vs l ls e w' := by
  obtain ⟨h1, v2, h2⟩ := h
  exact ⟨h1, _, v2, (ins_perm l k (came, size)).filter _, hs.filter _, h2⟩
theorem bodyPost_imp {P : Program} {f : Func} {Q Q2 : Ending → World → Prop} (h : ∀ e w, Q e w → Q2 e w) {e : Exit} {a : Act} {w : World} (hb : bodyPost P f Q e a w) : bodyPost P f Q2 e a w := by
  unfold bodyPost at hb ⊢
  cases e
  case normal => obtain ⟨q1, v, q2, q3⟩ := hb; exact ⟨q1, v, q2, h _ _ q3⟩
  case ret => obtain ⟨q1, v, q2, q3⟩ := hb; exact ⟨q1, v, q2, h _ _ q3⟩
  case panic => obtain ⟨q1, q2⟩ := hb; exact ⟨q1, h _ _ q2⟩
  case outgrown => exact h _ _ hb
  all_goals exact hb
def tl1 : Code → Code
  | .seq _ c => c
  | c => c
theorem gotF_of {g : Nat} {came size : Int} {a : Act} (h : a = gotF g came size (fun i => a.tmps.getD i undef)) : a = gotF g came size (fun i => a.tmps.getD i undef) := h
def PlaceRel (l : List Smp) (came : Int) (v : Value) : Prop := ∃ k : Nat, v = .int .i64 k ∧ k ≤ l.length ∧ Aside0 (∀ p ∈ l.drop k, came < p.1)
def hd1 : Code → Code
  | .seq c _ => c
  | c => c
set_option maxHeartbeats 8000000 in
set_option maxRecDepth 100000 in
theorem mgot_len (g : Nat) (came size : Int) (A : Option Addr) (n c : Nat) (code : Code) (hr : hd1 (tl1 (cut3 (Try.f10.body.getD .skip))) = code) (K : Act → World → Prop) (Q : Exit → Act → World → Prop) (q : Nat → Value) (w : World) (x4 : w.cell? ⟨g, 4, none⟩ = some (.slice A n c)) (hK : Aside0 (∀ a q', a = gotF g came size q' → q' 6 = .int .i64 n → K a w)) :
    code.wp Try.prog (Exit.then K Q) (gotF g came size q) w := by
  have e := hr.symm.trans (show hd1 (tl1 (cut3 (Try.f10.body.getD .skip))) = .region _ _ _ from rfl)
  subst e
  clear hr
  unfold gotF
  go_wp2_with fail
  (try simp only [Exit.then])
  exact hK.out _ _ (gotF_of rfl) rfl
set_option maxHeartbeats 8000000 in
set_option maxRecDepth 100000 in
theorem mgot_loop (base g : Nat) (came size : Int) (A : Option Addr) (n c : Nat) (l : List Smp) (code : Code) (hr : hd1 (tl1 (tl1 (cut3 (Try.f10.body.getD .skip)))) = code) (K : Act → World → Prop) (Q : Exit → Act → World → Prop) (q : Nat → Value) (hq : q 6 = .int .i64 n) (w : World) (x4 : w.cell? ⟨g, 4, none⟩ = some (.slice A n c)) (hrl : RowV w base 56 2 (.slice A n c) n (smpV l)) (hn : n = l.length) (hn4 : n ≤ 4095)
    (hK : ∀ (k : Nat) a q', a = gotF g came size q' → q' 6 = .int .i64 k → k ≤ n → (∀ p ∈ l.drop k, came < p.1) → (k = 0 ∨ ∃ p, l[k - 1]? = some p ∧ p.1 ≤ came) → K a w) :
    code.wp Try.prog (Exit.then K Q) (gotF g came size q) w := by
  have e := hr.symm.trans (show hd1 (tl1 (tl1 (cut3 (Try.f10.body.getD .skip)))) = .block _ _ from rfl)
  subst e
  clear hr
  have HN := Aside0.mk hn
  have HRL := Aside0.mk hrl
  have HK2 := Aside0.mk hK
  have hform : n ≤ c ∧ c ≤ maxLen := by
    obtain ⟨A2, c', ec, h1, h2⟩ := hrl.form
    injection ec with _ _ ec
    subst ec
    exact ⟨h1, h2⟩
  obtain ⟨hnc, hcm⟩ := hform
  have HQ := Aside0.mk hq
  clear hn hrl hK hq
  unfold gotF
  rw [HQ.out]
  go_wp2_with fail
  go_loop [6] (fun v => PlaceRel l came v) (fun v => (intOf v).toNat)
  case atStart => exact ⟨n, rfl, Nat.le_of_eq HN.out, ⟨fun p hp => by rw [List.drop_eq_nil_of_le (Nat.le_of_eq HN.out.symm)] at hp; cases hp⟩⟩
  case round =>
    obtain ⟨k, rfl, hk, HK⟩ := hrel
    rw [← HN.out] at hk
    by_cases hk0 : k = 0
    · subst hk0
      go_wp2_with fail
      (try simp only [Exit.then])
      exact HK2.out 0 _ _ (gotF_of rfl) rfl (by omega) HK.out (.inl rfl)
    · obtain ⟨j, rfl⟩ : ∃ j, k = j + 1 := ⟨k - 1, by omega⟩
      have hjl : j < l.length := by rw [← HN.out]; omega
      obtain ⟨⟨p1, p2⟩, hp⟩ : ∃ p, l[j]? = some p := ⟨l[j]'hjl, List.getElem?_eq_getElem hjl⟩
      obtain ⟨b5, off5, c', hvl, hb5, hnc', hcm', hx⟩ := HRL.out.some_ (by omega)
      injection hvl with hA _ hc
      subst hA hc
      have xe := hx _ _ (smpV_get hp).1
      dsimp only at xe
      have HP := Aside0.mk hp
      have d1 : decide (0 < ((j + 1 : Nat) : Int)) = true := decide_eq_true (by omega)
      have d1' : decide (0 < j + 1) = true := by simp
      have i1 : (j : Int) < (n : Int) := by omega
      have i0 : (0 : Int) ≤ (j : Int) := by omega
      clear hx hp hk0 hnc' hcm' hjl
      by_cases hlt : came < p1
      · have d2 : decide (came < p1) = true := decide_eq_true hlt
        go_wp2_with fail
        refine ⟨⟨j, rfl, by rw [← HN.out]; omega, ⟨fun p hpm => ?_⟩⟩, by simp [intOf]⟩
        obtain ⟨hj, ep⟩ := List.getElem?_eq_some_iff.1 HP.out
        rw [List.drop_eq_getElem_cons hj, ep] at hpm
        rcases List.mem_cons.1 hpm with h | h
        · rw [h]; exact hlt
        · exact HK.out p h
      · have d2 : decide (came < p1) = false := decide_eq_false hlt
        go_wp2_with fail
        (try simp only [Exit.then])
        exact HK2.out (j + 1) _ _ (gotF_of rfl) rfl (by omega) HK.out (.inr ⟨_, HP.out, by omega⟩)
theorem mgot_seek (w0 : World) (base g : Nat) (bs : Option Nat) (window F1 L1 came size : Int) (vl vs : Value) (l : List Smp) (ls : List Bool) (h0 : 1 ≤ window) (h1 : window ≤ 1125899906842624) (h2 : -1125899906842624 ≤ L1) (h3 : L1 ≤ 1125899906842624)
    (hsz : ∀ p ∈ l, 0 ≤ p.2 ∧ p.2 ≤ 1500) (hs0 : 0 ≤ size) (hs1 : size ≤ 1500) (hlen : l.length ≤ 4095) (hsort : l.Pairwise SmpLe) (rest : Code) (hr : tl1 (cut3 (Try.f10.body.getD .skip)) = rest) (q : Nat → Value) (w : World) (H : MwRun w0 w base g bs ⟨window, true, F1, L1, vl, sumS l, vs⟩ l ls) :
    rest.wp Try.prog (bodyPost Try.prog Try.f10 (GotR w0 base g bs window F1 L1 came size vs l ls)) (gotF g came size q) w := by
  have e := hr.symm.trans (show tl1 (cut3 (Try.f10.body.getD .skip)) = .seq (hd1 (tl1 (cut3 (Try.f10.body.getD .skip)))) (.seq (hd1 (tl1 (tl1 (cut3 (Try.f10.body.getD .skip))))) (cut3 (cut3 (Try.f10.body.getD .skip)))) from rfl)
  subst e
  obtain ⟨A, c, hvl, hnc, hcm⟩ := H.rl.form
  dsimp only at hvl
  have x4 := H.c4
  dsimp only at x4
  rw [hvl] at x4
  have hrl := H.rl
  dsimp only at hrl
  rw [hvl] at hrl
  refine wp_seq_k (fun K hK => mgot_len g came size A l.length c _ rfl K _ q w x4 ⟨fun a q' ha h6 => hK _ _ (wp_seq_k (fun K2 hK2 => ?_))⟩)
  rw [ha]
  refine mgot_loop base g came size A l.length c l _ rfl K2 _ q' h6 w x4 hrl rfl hlen (fun k a2 q2 ha2 h62 hk hd hp => hK2 _ _ ?_)
  have hs := ins_sorted (s := size) hsort hk hd hp
  rw [ha2]
  refine Code.wp_mono (fun _ _ _ q => bodyPost_imp (fun _ _ h => GotQ.to hs h) q) ?_
  subst hvl
  cases A with
  | none =>
    obtain ⟨_, ⟨e1, e2⟩ | ⟨_, _, _, e1, _⟩⟩ := hrl
    · have hl : l = [] := List.eq_nil_of_length_eq_zero e2
      rw [e2] at hk
      injection e1 with _ _ ec
      subst ec
      rw [e2] at H
      exact mgot_ins_nil w0 base g bs window F1 L1 came size vs l ls k h0 h1 h2 h3 hsz hs0 hs1 hlen hs ⟨by omega, hl⟩ _ rfl q2 h62 w H
    · cases e1
  | some p =>
    obtain ⟨_, ⟨e1, e2⟩ | ⟨b5, off5, cap, e1, _⟩⟩ := hrl
    · cases e1
    · injection e1 with e1 _ ec
      injection e1 with e1
      subst e1 ec
      by_cases hkl : k = l.length
      · exact mgot_ins_end w0 base g bs window F1 L1 came size vs l ls k b5 off5 c h0 h1 h2 h3 hsz hs0 hs1 hlen hs hkl _ rfl q2 h62 w H
      · exact mgot_ins_mid w0 base g bs window F1 L1 came size vs l ls k b5 off5 c h0 h1 h2 h3 hsz hs0 hs1 hlen hs (by omega) _ rfl q2 h62 w H
theorem mgot_seek_a (w0 : World) (base g : Nat) (bs : Option Nat) (window F1 L1 came size : Int) (vl vs : Value) (l : List Smp) (ls : List Bool) (h0 : 1 ≤ window) (h1 : window ≤ 1125899906842624) (h2 : -1125899906842624 ≤ L1) (h3 : L1 ≤ 1125899906842624)
    (hsz : ∀ p ∈ l, 0 ≤ p.2 ∧ p.2 ≤ 1500) (hs0 : 0 ≤ size) (hs1 : size ≤ 1500) (hlen : l.length ≤ 4095) (hsort : l.Pairwise SmpLe) (a : Act) (ha : a = gotF g came size (fun i => a.tmps.getD i undef)) (Q2 : Ending → World → Prop) (hQ : ∀ e w', GotR w0 base g bs window F1 L1 came size vs l ls e w' → Q2 e w') (w : World) (H : MwRun w0 w base g bs ⟨window, true, F1, L1, vl, sumS l, vs⟩ l ls) :
    (tl1 (cut3 (Try.f10.body.getD .skip))).wp Try.prog (bodyPost Try.prog Try.f10 Q2) a w := by
  rw [ha]
  exact Code.wp_mono (fun _ _ _ q => bodyPost_imp hQ q) (mgot_seek w0 base g bs window F1 L1 came size vl vs l ls h0 h1 h2 h3 hsz hs0 hs1 hlen hsort _ rfl _ w H)
theorem GotR.go {w0 w' : World} {base g : Nat} {bs : Option Nat} {s : Mt} {came size : Int} {vs : Value} {l : List Smp} {e : Ending} (hp : l.Perm s.l) (hbs : vs.ownBlock = bs) (h : GotR w0 base g bs s.window (s.firstOf came) (s.lastOf came) came size vs l (Mt.push s.ls false) e w') : e = .returned (.tuple #[]) ∧ MtGo w0 w' base g bs (s.got1 came size) := by
  obtain ⟨he, l', v2, h1, h2, h3⟩ := h
  have hp2 : l'.Perm (s.got1 came size).l := h1.trans ((hp.append_right _).filter _)
  refine ⟨he, bs, ⟨l', v2, vs, hp2, h2, hbs, ?_⟩, h3.t, fun k hk => .inl hk⟩
  rw [← sumS_perm hp2]
  exact ⟨h3.c, h3.b, h3.rl, h3.rs, Touch.refl _ _⟩
set_option maxHeartbeats 8000000 in
set_option maxRecDepth 100000 in
theorem mgot_good {w : World} {base g : Nat} {bs : Option Nat} {s : Mt} {k : Nat} (came size : Int) (h : MtIs w base g bs s) (ho : MtOk s k) (hk : k ≤ 4095) (hg : goodS came size = true) : Calls Try.prog 10 #[.pointer (some ⟨g, 0, none⟩), .int .i64 came, .int .i64 size] w fun e w' => e = .returned (.tuple #[]) ∧ MtGo w w' base g bs (s.got1 came size) := by
  have HP := Aside0.mk (mpassed_any (w := w) false h ho.lsn)
  have HO := Aside0.mk ho
  have hgg := hg
  simp only [goodS, decide_eq_true_eq] at hgg
  obtain ⟨a1, a2, a3, a4⟩ := hgg
  clear h hg ho
  go_enter Try.func10, Try.ntmps10
  refine wp_seq_k (fun K0 hK0 => ?_)
  have HK0 := Aside0.mk hK0
  clear hK0
  go_wp2_with fail
  all_goals first | (exfalso; omega) | skip
  (try simp only [Exit.then])
  refine HK0.out _ _ (wp_seq_k (fun K1 hK1 => ?_))
  have HK1 := Aside0.mk hK1
  clear hK1 HK0
  go_wp2_with fail
  refine HP.out.mono ?_
  rintro e w1 ⟨rfl, bs1, ⟨l, vl, vs, hp, hso, hbs, hM⟩, hT1, hF1⟩
  have hM : MwRun w1 w1 base g bs1 ⟨s.window, s.any, s.first, s.last, vl, sumS s.l, vs⟩ l (Mt.push s.ls false) := hM
  have hp : l.Perm s.l := hp
  rw [← sumS_perm hp] at hM
  have hsz : ∀ p ∈ l, 0 ≤ p.2 ∧ p.2 ≤ 1500 := fun p hm => HO.out.sz p (hp.mem_iff.1 hm)
  have hlen : l.length ≤ 4095 := by rw [hp.length_eq]; have := HO.out.len; omega
  have hw0 := HO.out.w0
  have hw1 := HO.out.w1
  have hl1 := HO.out.l1
  have hf0 := HO.out.f0
  have hfl := HO.out.fl
  obtain ⟨F1, hF⟩ : ∃ F1, F1 = s.firstOf came := ⟨_, rfl⟩
  obtain ⟨L1, hL⟩ : ∃ L1, L1 = s.lastOf came := ⟨_, rfl⟩
  have hLb : -1125899906842624 ≤ L1 ∧ L1 ≤ 1125899906842624 := by rw [hL]; unfold Mt.lastOf; split <;> omega
  have hgo : ∀ e w', GotR w1 base g bs1 s.window F1 L1 came size vs l (Mt.push s.ls false) e w' → e = .returned (.tuple #[]) ∧ MtGo w w' base g bs (s.got1 came size) := by
    intro e w' hR
    rw [hF, hL] at hR
    obtain ⟨he, hG⟩ := GotR.go hp hbs hR
    exact ⟨he, MtGo.then_ hT1 hF1 hG⟩
  have HS := Aside0.mk (fun (a : Act) (ha : a = gotF g came size (fun i => a.tmps.getD i undef)) (w2 : World) H => mgot_seek_a w1 base g bs1 s.window F1 L1 came size vl vs l (Mt.push s.ls false) hw0 hw1 hLb.1 hLb.2 hsz a1 a2 hlen hso a ha _ hgo w2 H)
  have HM := Aside0.mk hM
  have x1 := hM.c1
  have x2 := hM.c2
  have x3 := hM.c3
  have x1f := hM.f1
  have x2f := hM.f2
  have x3f := hM.f3
  dsimp only at x1 x2 x3
  have HF := Aside0.mk hF
  have HL := Aside0.mk hL
  clear hM hp hso hbs hT1 hF1 hsz hlen hw0 hw1 hl1 hf0 hfl hLb hgo hF hL HP
  obtain ⟨window, any, first, last, sl, sls⟩ := s
  dsimp only at x1 x2 x3
  go_wp2_with fail
  (try simp only [Exit.then])
  refine HK1.out _ _ (wp_seq_k (fun K2 hK2 => ?_))
  have HK2 := Aside0.mk hK2
  clear hK2 HK1
  cases any
  · have eF : min came came = F1 := by rw [HF.out]; simp [Mt.firstOf]
    have eL : max came came = L1 := by rw [HL.out]; simp [Mt.lastOf]
    have HM2 := Aside0.mk (((HM.out.s1 true).s2 came).s3 came)
    go_wp2_with fail
    (try simp only [Exit.then])
    refine HK2.out _ _ (wp_seq_k (fun K3 hK3 => ?_))
    have HK3 := Aside0.mk hK3
    clear hK3 HK2 x1 x2 x3 x1f x2f x3f
    have x2 := HM2.out.c2
    have x3 := HM2.out.c3
    have x2f := HM2.out.f2
    have x3f := HM2.out.f3
    dsimp only at x2 x3
    generalize ((w1.setCell { block := g, off := 1 } (Value.bool true)).setCell { block := g, off := 2 } (Value.int IntKind.i64 came)).setCell { block := g, off := 3 } (Value.int IntKind.i64 came) = w2 at *
    go_region
    all_goals (try simp only [Exit.then])
    all_goals refine HK3.out _ _ (HS.out _ ?_ _ ?_)
    all_goals first | rfl | exact ((HM2.out.s2 F1).s3 L1).drewn | exact ((HM2.out.s3 L1).s2 F1).drewn
  · have eF : min first came = F1 := by rw [HF.out]; simp [Mt.firstOf]
    have eL : max last came = L1 := by rw [HL.out]; simp [Mt.lastOf]
    go_wp2_with fail
    (try simp only [Exit.then])
    refine HK2.out _ _ (wp_seq_k (fun K3 hK3 => ?_))
    have HK3 := Aside0.mk hK3
    clear hK3 HK2
    go_region
    all_goals (try simp only [Exit.then])
    all_goals refine HK3.out _ _ (HS.out _ ?_ _ ?_)
    all_goals first | rfl | exact ((HM.out.s2 F1).s3 L1).drewn | exact ((HM.out.s3 L1).s2 F1).drewn
theorem mgot_any {w : World} {base g : Nat} {bs : Option Nat} {s : Mt} {k : Nat} (came size : Int) (h : MtIs w base g bs s) (ho : MtOk s k) (hk : k ≤ 4095) : Calls Try.prog 10 #[.pointer (some ⟨g, 0, none⟩), .int .i64 came, .int .i64 size] w fun e w' => e = .returned (.tuple #[]) ∧ MtGo w w' base g bs (s.got came size) := by
  unfold Mt.got
  cases hg : goodS came size
  · refine (mgot_bad (w := w) (A := some ⟨g, 0, none⟩) came size (.inr hg)).mono ?_
    rintro e w' ⟨he, rfl⟩
    exact ⟨he, MtGo.refl h⟩
  · exact mgot_good came size h ho hk hg
end Go.Proofs.Ytpmbacgdbnfeeaa.B
