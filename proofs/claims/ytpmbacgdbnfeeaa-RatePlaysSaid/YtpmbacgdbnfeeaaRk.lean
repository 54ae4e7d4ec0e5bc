/-
  In whatever order packets come, what is measured in the end is the same: the law, walked.
-/
import Derived.Test.YtpmbacgdbnfeeaaRh
import Derived.Test.YtpmbacgdbnfeeaaKm
namespace Go.Proofs.Ytpmbacgdbnfeeaa.B
open Go.RowKit Go.Proofs.YtpmbacgdbnfeeaaW.PrintWords Go.Proofs.YtpmbacgdbnfeeaaW.PrintLast Go.Proofs.YtpmbacgdbnfeeaaW.PrintMore
set_option linter.unusedVariables false
set_option linter.unusedSimpArgs false
structure GtIs (xs : List Smp) (s : Mt) : Prop where
  w : s.window = 1048576
  l : s.l = xs
  any : s.any = !xs.isEmpty
  f0 : xs ≠ [] → ∃ p ∈ xs, s.first = p.1
  f1 : ∀ p ∈ xs, s.first ≤ p.1
  l0 : xs ≠ [] → ∃ p ∈ xs, s.last = p.1
  l1 : ∀ p ∈ xs, p.1 ≤ s.last
def SmpOk (p : Smp) : Prop := 0 ≤ p.1 ∧ p.1 ≤ 65535 ∧ 0 ≤ p.2 ∧ p.2 ≤ 1500
theorem GtIs.got {l : List Smp} {s : Mt} (h : GtIs l s) (hl : ∀ q ∈ l, SmpOk q) {p : Smp} (hp : SmpOk p) : GtIs (l ++ [p]) (s.got p.1 p.2) := by
  have hg : goodS p.1 p.2 = true := by simp only [goodS, decide_eq_true_eq]; unfold SmpOk at hp; omega
  rw [Mt.got, if_pos hg]
  unfold SmpOk at hp hl
  have hL : s.lastOf p.1 ≤ 65535 ∧ p.1 ≤ s.lastOf p.1 ∧ (∀ q ∈ l, q.1 ≤ s.lastOf p.1) ∧ (s.lastOf p.1 = p.1 ∨ ∃ q ∈ l, s.lastOf p.1 = q.1) := by
    unfold Mt.lastOf
    split
    · rename_i ha
      have hne : l ≠ [] := by rw [h.any] at ha; intro e; rw [e] at ha; simp at ha
      obtain ⟨q, hq, eq⟩ := h.l0 hne
      have hqb := hl q hq
      refine ⟨by omega, by omega, fun r hr => by have := h.l1 r hr; omega, ?_⟩
      by_cases hc : s.last ≤ p.1
      · exact .inl (by omega)
      · exact .inr ⟨q, hq, by omega⟩
    · rename_i ha
      have he : l = [] := by
        rw [h.any] at ha
        cases l with
        | nil => rfl
        | cons a b => simp at ha
      subst he
      exact ⟨by omega, by omega, fun q hq => (List.not_mem_nil hq).elim, .inl rfl⟩
  have hF : s.firstOf p.1 ≤ p.1 ∧ (∀ q ∈ l, s.firstOf p.1 ≤ q.1) ∧ (s.firstOf p.1 = p.1 ∨ ∃ q ∈ l, s.firstOf p.1 = q.1) := by
    unfold Mt.firstOf
    split
    · rename_i ha
      have hne : l ≠ [] := by rw [h.any] at ha; intro e; rw [e] at ha; simp at ha
      obtain ⟨q, hq, eq⟩ := h.f0 hne
      refine ⟨by omega, fun r hr => by have := h.f1 r hr; omega, ?_⟩
      by_cases hc : s.first ≤ p.1
      · exact .inr ⟨q, hq, by omega⟩
      · exact .inl (by omega)
    · rename_i ha
      have he : l = [] := by
        rw [h.any] at ha
        cases l with
        | nil => rfl
        | cons a b => simp at ha
      subst he
      exact ⟨by omega, fun q hq => (List.not_mem_nil hq).elim, .inl rfl⟩
  have hmem : ∀ q ∈ l ++ [p], q ∈ l ∨ q = p := by
    intro q hq
    rcases List.mem_append.1 hq with hq | hq
    · exact .inl hq
    · exact .inr (List.mem_singleton.1 hq)
  refine ⟨h.w, ?_, ?_, fun _ => ?_, fun q hq => ?_, fun _ => ?_, fun q hq => ?_⟩
  · show (s.l ++ [(p.1, p.2)]).filter _ = _
    rw [h.l, h.w, List.filter_eq_self]
    intro q hq
    refine decide_eq_true ?_
    rcases hmem q hq with hq | hq
    · have := hl q hq
      omega
    · rw [hq]
      omega
  · show true = _
    cases l <;> rfl
  · rcases hF.2.2 with h | ⟨q, hq, h⟩
    · exact ⟨p, by simp, h⟩
    · exact ⟨q, by simp [hq], h⟩
  · show s.firstOf p.1 ≤ q.1
    rcases hmem q hq with hq | hq
    · exact hF.2.1 q hq
    · rw [hq]; exact hF.1
  · rcases hL.2.2.2 with h | ⟨q, hq, h⟩
    · exact ⟨p, by simp, h⟩
    · exact ⟨q, by simp [hq], h⟩
  · show q.1 ≤ s.lastOf p.1
    rcases hmem q hq with hq | hq
    · exact hL.2.2.1 q hq
    · rw [hq]; exact hL.2.1
def gotsF (s : Mt) (l : List Smp) : Mt := l.foldl (fun s p => s.got p.1 p.2) s
def gots (l : List Smp) : Mt := gotsF (Mt.made 1048576) l
theorem gots_snoc (l : List Smp) (p : Smp) : gots (l ++ [p]) = (gots l).got p.1 p.2 := by simp [gots, gotsF, List.foldl_append]
theorem gotsF_is : ∀ (l acc : List Smp) (s : Mt), GtIs acc s → (∀ q ∈ acc, SmpOk q) → (∀ q ∈ l, SmpOk q) → GtIs (acc ++ l) (gotsF s l)
  | [], acc, s, h, _, _ => by rw [List.append_nil]; exact h
  | p :: l, acc, s, h, h1, h2 => by
    have h3 := gotsF_is l (acc ++ [p]) (s.got p.1 p.2) (h.got h1 (h2 p (by simp))) (fun q hq => by
      rcases List.mem_append.1 hq with hq | hq
      · exact h1 q hq
      · rw [List.mem_singleton.1 hq]; exact h2 p (by simp)) (fun q hq => h2 q (List.mem_cons_of_mem _ hq))
    rw [List.append_assoc] at h3
    exact h3
theorem gots_is {l : List Smp} (h : ∀ q ∈ l, SmpOk q) : GtIs l (gots l) := by
  have := gotsF_is l [] (Mt.made 1048576) ⟨rfl, rfl, rfl, fun h => (h rfl).elim, fun p hp => (List.not_mem_nil hp).elim, fun h => (h rfl).elim, fun p hp => (List.not_mem_nil hp).elim⟩ (fun p hp => (List.not_mem_nil hp).elim) h
  rw [List.nil_append] at this
  exact this
theorem GtIs.perm {l1 l2 : List Smp} {s1 s2 : Mt} (h1 : GtIs l1 s1) (h2 : GtIs l2 s2) (hp : l1.Perm l2) : sumS s1.l = sumS s2.l ∧ s1.rate = s2.rate ∧ s1.full = s2.full := by
  have hs : sumS s1.l = sumS s2.l := by rw [h1.l, h2.l]; exact sumS_perm hp
  have ha : s1.any = s2.any := by
    rw [h1.any, h2.any]
    cases l1 with
    | nil => rw [List.nil_perm.1 hp]
    | cons a l1 =>
      cases l2 with
      | nil => simp at hp
      | cons b l2 => rfl
  cases hb : s2.any with
  | false =>
    rw [hb] at ha
    refine ⟨hs, ?_, ?_⟩
    · unfold Mt.rate
      rw [if_neg (by rw [ha]; decide), if_neg (by rw [hb]; decide)]
    · unfold Mt.full
      rw [ha, hb, Bool.false_and, Bool.false_and]
  | true =>
    rw [hb] at ha
    have n1 : l1 ≠ [] := by intro e; have := h1.any; rw [e, ha] at this; simp at this
    have n2 : l2 ≠ [] := by intro e; have := h2.any; rw [e, hb] at this; simp at this
    obtain ⟨p1, m1, e1⟩ := h1.f0 n1
    obtain ⟨p2, m2, e2⟩ := h2.f0 n2
    obtain ⟨q1, k1, g1⟩ := h1.l0 n1
    obtain ⟨q2, k2, g2⟩ := h2.l0 n2
    have a1 := h1.f1 p2 (hp.mem_iff.2 m2)
    have a2 := h2.f1 p1 (hp.mem_iff.1 m1)
    have b1 := h1.l1 q2 (hp.mem_iff.2 k2)
    have b2 := h2.l1 q1 (hp.mem_iff.1 k1)
    have ef : s1.first = s2.first := by omega
    have el : s1.last = s2.last := by omega
    have hw : s1.window = s2.window := by rw [h1.w, h2.w]
    have hf : s1.full = s2.full := by unfold Mt.full; rw [ha, hb, hw, ef, el]
    refine ⟨hs, ?_, hf⟩
    unfold Mt.rate
    rw [if_pos ha, if_pos hb, hf, hs, hw, ef, el]
def ordS (xs : List Int) (j : Nat) : Smp := (rd xs (j : Int), 100 + (j : Int))
def ordF (n i : Nat) : List Nat := (List.range n).map (fun k => if k < i then k else 0)
theorem ordF_length (n i : Nat) : (ordF n i).length = n := by simp [ordF]
theorem ordF_set (n i : Nat) (h : i < n) : (ordF n i).set i i = ordF n (i + 1) := by
  refine List.ext_getElem (by simp [ordF]) (fun k h1 h2 => ?_)
  rw [List.getElem_set]
  simp only [ordF, List.getElem_map, List.getElem_range]
  split
  · rw [if_pos (by omega)]; omega
  · by_cases hk : k < i
    · rw [if_pos hk, if_pos (by omega)]
    · rw [if_neg hk, if_neg (by omega)]
theorem ordF_end (n : Nat) : ordF n n = List.range n := by
  refine List.ext_getElem (by simp [ordF]) (fun k h1 h2 => ?_)
  simp only [ordF, List.getElem_map, List.getElem_range]
  rw [if_pos (by simpa [ordF] using h1)]
def swapN (l : List Nat) (x y : Nat) : List Nat := (l.set x (l.getD y 0)).set y (l.getD x 0)
theorem swapN_perm {l : List Nat} {x y : Nat} (hx : x < l.length) (hy : y < l.length) : (swapN l x y).Perm l := by
  have h := Array.swap_perm (xs := l.toArray) (i := x) (j := y) (by simpa using hx) (by simpa using hy)
  have e : (l.toArray.swap x y (by simpa using hx) (by simpa using hy)).toList = swapN l x y := by
    simp [Array.swap, swapN, hx, hy]
  have h2 := Array.perm_iff_toList_perm.1 h
  rw [e] at h2
  exact h2
def ordV (ord : List Nat) : Array Value := (ord.map (fun (j : Nat) => Value.int .i64 (j : Int))).toArray
def OrdAt (w : World) (bo : Nat) (ord : List Nat) : Prop := w.heap[bo]? = some (.cells (ordV ord) 3 (0, 0))
theorem OrdAt.cell {w : World} {bo : Nat} {ord : List Nat} (h : OrdAt w bo ord) {k : Nat} (hk : k < ord.length) : w.cell? ⟨bo, k, none⟩ = some (.int .i64 ((ord.getD k 0 : Nat) : Int)) := by
  rw [blk_cell h k]
  simp [ordV, hk]
theorem OrdAt.frozen {w : World} {bo : Nat} {ord : List Nat} (h : OrdAt w bo ord) (k : Nat) : w.frozen? ⟨bo, k, none⟩ = false := blk_frozen h k
theorem OrdAt.set {w : World} {bo : Nat} {ord : List Nat} (h : OrdAt w bo ord) (k v : Nat) : OrdAt (w.setCell ⟨bo, k, none⟩ (.int .i64 (v : Int))) bo (ord.set k v) := by
  have h2 := blk_set h k (.int .i64 (v : Int))
  unfold OrdAt
  rw [h2]
  simp [ordV, List.map_set]
theorem ordAt_made (w : World) (n : Nat) : OrdAt (w.alloc (.cells (madeCells #[.int .i64 0] n) 3)) w.heap.size (ordF n 0) := by
  have h := blk_new w (.cells (madeCells #[.int .i64 0] n) 3)
  unfold OrdAt
  rw [h]
  simp only [Option.some.injEq, Obj.cells.injEq, and_true]
  unfold madeCells ordV ordF
  apply Array.ext'
  simp [Array.toList_range, Nat.mod_one]
theorem MtIs.touch1 {w w' : World} {base g g2 : Nat} {bs : Option Nat} {s : Mt} {cs : Array Value} {tt : TypeId} {fr : Nat × Nat} (h : MtIs w base g bs s) (T : Touch (fun k => k = g2) w w') (hne : g2 ≠ g) (h2 : w.heap[g2]? = some (.cells cs tt fr)) (ht1 : tt ≠ 56) (ht2 : tt ≠ 4) : MtIs w' base g bs s := by
  obtain ⟨l, vl, vs, k1, k2, k3, k4⟩ := h
  refine ⟨l, vl, vs, k1, k2, k3, ⟨(T.block g (blk_lt k4.c) (fun e => hne e.symm)).trans k4.c, k4.b, k4.rl.keep (fun k hk hb hs => T.block k (k4.rl.lt hk).1 (fun e => ?_)), k4.rs.keep (fun k hk hb hs => T.block k (k4.rs.lt hk).1 (fun e => ?_)), Touch.refl _ _⟩⟩
  · subst e
    simp [World.shape?, h2] at hs
    exact ht1 hs
  · subst e
    simp [World.shape?, h2] at hs
    exact ht2 hs
theorem MtIs.block {w : World} {base g : Nat} {bs : Option Nat} {s : Mt} (h : MtIs w base g bs s) : ∃ cs, w.heap[g]? = some (.cells cs 50 (0, 0)) := by
  obtain ⟨l, vl, vs, k1, k2, k3, k4⟩ := h
  exact ⟨_, k4.c⟩
theorem ordS_ok {xs : List Int} (hw : ∀ x ∈ xs, U16 x) {j : Nat} (hj : j < xs.length) (hn : xs.length ≤ 200) : SmpOk (ordS xs j) := by
  have h := hw (rd xs (j : Int)) (by unfold rd; rw [Int.toNat_natCast, List.getD_eq_getElem?_getD, List.getElem?_eq_getElem hj]; exact List.getElem_mem _)
  unfold U16 at h
  unfold SmpOk ordS
  dsimp only
  omega
theorem take_map_succ {xs : List Int} {ord : List Nat} {k : Nat} (hk : k < ord.length) : (ord.take (k + 1)).map (ordS xs) = (ord.take k).map (ordS xs) ++ [ordS xs (ord.getD k 0)] := by
  rw [List.take_add_one, List.getElem?_eq_getElem hk, List.getD_eq_getElem?_getD, List.getElem?_eq_getElem hk, List.map_append]
  rfl
theorem MtIs.frozenTouch {w4 w5 : World} {base g g2 : Nat} {s s2 : Mt} (h : MtIs w4 base g none s) (hne : g2 ≠ g) (h2 : ∃ bs, MtIs w4 base g2 bs s2) (T : Touch (fun k => k = g2) w4 w5) : MtIs w5 base g none s := by
  obtain ⟨bs, h2⟩ := h2
  obtain ⟨cs, hc⟩ := h2.block
  exact h.touch1 T hne hc (by decide) (by decide)
theorem MRun.is {w1 w : World} {base g : Nat} {s : Mt} (h : MRun w1 w base g s) : ∃ bs, MtIs w base g bs s := by
  obtain ⟨bs, h, _⟩ := h
  exact ⟨bs, h⟩
theorem MRun.frozen {w1 w w2 : World} {base g g2 : Nat} {s s2 : Mt} (h : MRun w1 w base g s) (h2 : ∃ bs, MtIs w base g2 bs s2) (hne : g2 ≠ g) (T : Touch (fun k => k = g2) w w2) : ∃ bs, MtIs w2 base g bs s := by
  obtain ⟨bs, h, _⟩ := h
  obtain ⟨bs2, h2⟩ := h2
  obtain ⟨cs, hc⟩ := h2.block
  exact ⟨bs, h.touch1 T hne hc (by decide) (by decide)⟩
def FillRel (w2 : World) (bo n : Nat) (v : Value) (wr : World) : Prop := ∃ i : Nat, v = .int .i64 i ∧ i ≤ n ∧ Aside0 (OrdAt wr bo (ordF n i)) ∧ Aside0 (Below w2.heap.size w2 wr)
def SwapRel (w2 : World) (bo n m : Nat) (v : Value) (wr : World) : Prop := ∃ (i : Nat) (ord : List Nat), v = .int .i64 i ∧ (i ≤ m ∧ i % 2 = 0) ∧ Aside0 (OrdAt wr bo ord) ∧ Aside0 (ord.Perm (List.range n)) ∧ Aside0 (Below w2.heap.size w2 wr)
def GotRel (w4 : World) (base g n : Nat) (xs : List Int) (ord : List Nat) (v : Value) (wr : World) : Prop := ∃ i : Nat, v = .int .i64 i ∧ i ≤ n ∧ Aside0 (MtOk (gots ((ord.take i).map (ordS xs))) i) ∧ Aside0 (MRun w4 wr base g (gots ((ord.take i).map (ordS xs))))
set_option maxHeartbeats 8000000 in
set_option maxRecDepth 100000 in
theorem order_short (A1 : Option Addr) (c1 : Nat) (xs : List Int) (A2 : Option Addr) (c2 : Nat) (tn : List Int) (w : World) (hC1 : (Kd.int .u16).C w A1 xs.length xs) (hw1 : ∀ x ∈ xs, U16 x) (hC2 : (Kd.int .i64).C w A2 tn.length tn) (hw2 : ∀ x ∈ tn, I64 x) (hn : xs.length ≤ 200) (hm2 : tn.length ≤ maxLen) :
    Calls Try.prog 7 #[.slice A1 xs.length c1, .slice A2 tn.length c2] w fun e w' => e = .returned (.bool true) ∧ Below w.heap.size w w' := by
  have HC1 := Aside0.mk hC1
  have HC2 := Aside0.mk hC2
  have HW1 := Aside0.mk hw1
  have HW2 := Aside0.mk hw2
  obtain ⟨n, hnn⟩ : ∃ n, n = xs.length := ⟨_, rfl⟩
  obtain ⟨m, hmm⟩ : ∃ m, m = tn.length := ⟨_, rfl⟩
  rw [← hnn] at HC1 hn ⊢
  rw [← hmm] at HC2 hm2 ⊢
  unfold maxLen at hm2
  have HN := Aside0.mk hnn
  have HM := Aside0.mk hmm
  clear hC1 hC2 hw1 hw2 hnn hmm
  have hmk : ∀ w : World, (Instr.makeSlice 45 (.int .i64 (n : Int)) (.int .i64 (n : Int))).run Try.prog w = .ok (.slice (some ⟨w.heap.size, 0, none⟩) n n) (w.alloc (.cells (madeCells #[.int .i64 0] n) 3)) := by
    intro w
    have h := run_make (P := Try.prog) w 45 3 Try.t3 (.int .i64 0) Try.underlying45 (by kernel_rfl) rfl .i64 .i64 (n : Int) (n : Int) (by omega) (by omega) (by show (8 : Int) * _ ≤ _; omega) (by omega)
    simpa [show Try.t3.size = 1 from rfl, Value.cells] using h
  have k200 : decide (200 < (n : Int)) = false := decide_eq_false (by omega)
  go_enter Try.func7, Try.ntmps7
  go_wp2_with fail
  refine (mnew_good 1048576 w.heap.size w (by omega) (by omega) (Nat.le_refl _)).mono ?_
  rintro e w1 ⟨ga, rfl, hMa, hga, hB1⟩
  have hs1 := hB1.size
  have HMa := Aside0.mk hMa
  have HB1 := Aside0.mk hB1
  clear hMa hB1
  go_wp2_with fail
  refine (mnew_good 1048576 w.heap.size w1 (by omega) (by omega) (by omega)).mono ?_
  rintro e w2 ⟨gb, rfl, hMb, hgb, hB2⟩
  have hs2 := hB2.size
  have HMa2 := Aside0.mk (HMa.out.below hB2)
  have HMb2 := Aside0.mk hMb
  have HB2 := Aside0.mk (HB1.out.trans (hB2.mono hs1))
  have hlt := HMa.out.lt.1
  clear hMb hB2
  go_wp2_with fail
  have HO3 := Aside0.mk (ordAt_made w2 n)
  have HB3 : Aside0 (Below w2.heap.size w2 (w2.alloc (.cells (madeCells #[.int .i64 0] n) 3))) := ⟨(Below.refl _ _).alloc (Nat.le_refl _) _⟩
  obtain ⟨bo, hbo⟩ : ∃ bo, bo = w2.heap.size := ⟨_, rfl⟩
  rw [← hbo] at HO3 ⊢
  generalize w2.alloc (.cells (madeCells #[.int .i64 0] n) 3) = w3 at *
  have HBO := Aside0.mk hbo
  clear hbo hmk
  go_loopw [10] (fun v wr => FillRel w2 bo n v wr) (fun v _ => n - (intOf v).toNat)
  case atStart => exact ⟨0, rfl, by omega, HO3, HB3⟩
  case round =>
    obtain ⟨i, rfl, hi, hO, hB⟩ := hrel
    by_cases hlt2 : i < n
    · have hc := hO.out.cell (k := i) (by rw [ordF_length]; exact hlt2)
      have hf := hO.out.frozen i
      go_wp2_with fail
      refine ⟨⟨i + 1, by simp, by omega, ⟨?_⟩, ⟨hB.out.setCell (p := ⟨bo, i, none⟩) (by show w2.heap.size ≤ bo; rw [HBO.out]; exact Nat.le_refl _) _⟩⟩, by simp [intOf]; omega⟩
      rw [← ordF_set n i hlt2]
      exact hO.out.set i i
    · have hin : i = n := by omega
      subst hin
      have HO4 : Aside0 (OrdAt wr bo (List.range i)) := ⟨by rw [← ordF_end]; exact hO.out⟩
      clear hO
      obtain ⟨wo, rfl⟩ : ∃ wo : World, wo = wr := ⟨_, rfl⟩
      go_wp2_with fail
      go_loopw [11] (fun v wr => SwapRel w2 bo i m v wr) (fun v _ => m + 1 - (intOf v).toNat)
      case atStart => exact ⟨0, _, rfl, ⟨by omega, rfl⟩, HO4, ⟨List.Perm.refl _⟩, hB⟩
      case round =>
        obtain ⟨j, ord, rfl, ⟨hj, hj2⟩, hO, hP, hB⟩ := hrel
        have hj3 : j + 1 ≤ 9223372036854775807 := by omega
        have HJ2 := Aside0.mk hj2
        clear hj2
        by_cases hlt3 : j + 1 < m ∧ 0 < i
        · obtain ⟨hjm, hi0⟩ := hlt3
          have hBw : Below w.heap.size w wr := HB2.out.trans (hB.out.mono (Nat.le_trans hs1 hs2))
          obtain ⟨ad2, hA2, t1⟩ := Kd.at_int (Kd.C_below HC2.out hBw) (j : Int) (by omega) (by omega)
          obtain ⟨ad2', hA2', t2⟩ := Kd.at_int (Kd.C_below HC2.out hBw) ((j + 1 : Nat) : Int) (by omega) (by omega)
          subst hA2
          obtain rfl : ad2 = ad2' := by injection hA2'
          simp only [Int.toNat_natCast] at t1 t2
          rw [show ad2.add (j + 1) = ⟨ad2.block, ad2.off + (j + 1), none⟩ from if_neg (by omega)] at t2
          have hr1 : I64 (rd tn (j : Int)) := HW2.out _ (by unfold rd; rw [Int.toNat_natCast, List.getD_eq_getElem?_getD, List.getElem?_eq_getElem (by rw [← HM.out]; omega)]; exact List.getElem_mem _)
          have hr2 : I64 (rd tn ((j + 1 : Nat) : Int)) := HW2.out _ (by unfold rd; rw [Int.toNat_natCast, List.getD_eq_getElem?_getD, List.getElem?_eq_getElem (by rw [← HM.out]; omega)]; exact List.getElem_mem _)
          have K1 := Aside0.mk (fun w => kmod_any _ (i : Int) hr1 (by omega) (by omega) w)
          have K2 := Aside0.mk (fun w => kmod_any _ (i : Int) hr2 (by omega) (by omega) w)
          obtain ⟨X, hX⟩ : ∃ X : Nat, (X : Int) = rd tn (j : Int) % (i : Int) := ⟨(rd tn (j : Int) % (i : Int)).toNat, by have := Int.emod_nonneg (rd tn (j : Int)) (show (i : Int) ≠ 0 by omega); omega⟩
          obtain ⟨Y, hY⟩ : ∃ X : Nat, (X : Int) = rd tn ((j + 1 : Nat) : Int) % (i : Int) := ⟨(rd tn ((j + 1 : Nat) : Int) % (i : Int)).toNat, by have := Int.emod_nonneg (rd tn ((j + 1 : Nat) : Int)) (show (i : Int) ≠ 0 by omega); omega⟩
          have hX1 : X < i := by have := Int.emod_lt_of_pos (rd tn (j : Int)) (show (0 : Int) < i by omega); omega
          have hY1 : Y < i := by have := Int.emod_lt_of_pos (rd tn ((j + 1 : Nat) : Int)) (show (0 : Int) < i by omega); omega
          rw [← hX] at K1
          rw [← hY] at K2
          clear hr1 hr2 hX hY hA2'
          obtain ⟨R1, hR1⟩ : ∃ R, R = rd tn (j : Int) := ⟨_, rfl⟩
          obtain ⟨R2, hR2⟩ : ∃ R, R = rd tn ((j + 1 : Nat) : Int) := ⟨_, rfl⟩
          rw [← hR1] at t1 K1
          rw [← hR2] at t2 K2
          clear hR1 hR2
          have hol : ord.length = i := by rw [hP.out.length_eq, List.length_range]
          have x1 := hO.out.cell (k := X) (by omega)
          have x2 := hO.out.cell (k := Y) (by omega)
          have f1 := hO.out.frozen X
          have f2 := hO.out.frozen Y
          have HOL := Aside0.mk hol
          clear hol
          have e0 : decide ((j : Int) + 1 < (m : Int)) = true := decide_eq_true (by omega)
          have e1 : decide (0 < (i : Int)) = true := decide_eq_true (by omega)
          have e2 : decide (0 < i) = true := decide_eq_true (by omega)
          have j0 : (0 : Int) ≤ (j : Int) := by omega
          have j1 : (j : Int) < (m : Int) := by omega
          have j2 : (j : Int) + 1 < (m : Int) := by omega
          have j3 : (0 : Int) ≤ (j : Int) + 1 := by omega
          go_wp2_with fail
          have j4 : IntKind.i64.wrap ((j : Int) + 1) = (j : Int) + 1 := by rw [i64_w]; unfold wrap64; omega
          have j5 : ((j : Int) + 1).toNat = j + 1 := by omega
          go_quiet ((first | (go_at_call 24; with_reducible exact Calls.quiet_of_same (K1.out _)) | (go_at_call 24; with_reducible exact Calls.quiet_of_same (K2.out _))))
          go_wp2_with fail
          have HOW : Aside0 (OrdAt (wr.drewN nq) bo ord) := ⟨hO.out⟩
          have HBW : Aside0 (Below w2.heap.size w2 (wr.drewN nq)) := ⟨pw_below_drewN hB.out nq⟩
          clear x1 x2 f1 f2 t1 t2
          generalize wr.drewN nq = W at *
          have x1 := HOW.out.cell (k := X) (by have := HOL.out; omega)
          have x2 := HOW.out.cell (k := Y) (by have := HOL.out; omega)
          have f1 := HOW.out.frozen X
          have f2 := HOW.out.frozen Y
          obtain ⟨VX, hVX⟩ : ∃ V, V = ord.getD X 0 := ⟨_, rfl⟩
          obtain ⟨VY, hVY⟩ : ∃ V, V = ord.getD Y 0 := ⟨_, rfl⟩
          rw [← hVX] at x1
          rw [← hVY] at x2
          have HVX := Aside0.mk hVX
          have HVY := Aside0.mk hVY
          clear hVX hVY
          have i0 : (0 : Int) ≤ (X : Int) := by omega
          have i1 : (X : Int) < (i : Int) := by omega
          have i2 : (0 : Int) ≤ (Y : Int) := by omega
          have i3 : (Y : Int) < (i : Int) := by omega
          refine start_ (n := 16) (S := fun w' => w'.cell? ⟨bo, X, none⟩ = some (.int .i64 (VX : Int)) ∧ w'.cell? ⟨bo, Y, none⟩ = some (.int .i64 (VY : Int))) (ds := [13, 15]) #[false, false, false, false, false, false, false, false, false, false, false, false, false, false, false, false] (by kernel_rfl) rfl rfl ⟨x1, x2⟩ (fun hHeld => ?_)
          refine pure_ (i := 0) (N := some 84) (v := ?_) (a' := ?_) #[true, false, false, false, false, false, false, false, false, false, false, false, false, false, false, false] rfl rfl (by kernel_rfl) (fun _ _ _ h => h) (Or.inl ⟨by rfl, ?_⟩) ?_ ?_
          rotate_left
          · intro w'
            go_simp
            with_reducible rfl
          rotate_left
          · simp only [Act.put, List.setIfInBounds_toArray, List.set_cons_zero, List.set_cons_succ, i64_w, i32_w]
            rfl
          refine pure_ (i := 1) (N := some 85) (v := ?_) (a' := ?_) #[true, true, false, false, false, false, false, false, false, false, false, false, false, false, false, false] rfl rfl (by kernel_rfl) (fun _ _ _ h => h) (Or.inl ⟨by rfl, ?_⟩) ?_ ?_
          rotate_left
          · intro w'
            go_simp
            with_reducible rfl
          rotate_left
          · simp only [Act.put, List.setIfInBounds_toArray, List.set_cons_zero, List.set_cons_succ, i64_w, i32_w]
            rfl
          refine pure_ (i := 2) (N := some 86) (v := ?_) (a' := ?_) #[true, true, true, false, false, false, false, false, false, false, false, false, false, false, false, false] rfl rfl (by kernel_rfl) (fun _ _ _ h => h) (Or.inl ⟨by rfl, ?_⟩) ?_ ?_
          rotate_left
          · intro w'
            go_simp
            with_reducible rfl
          rotate_left
          · simp only [Act.put, List.setIfInBounds_toArray, List.set_cons_zero, List.set_cons_succ, i64_w, i32_w]
            rfl
          refine pure_ (i := 3) (N := some 87) (v := ?_) (a' := ?_) #[true, true, true, true, false, false, false, false, false, false, false, false, false, false, false, false] rfl rfl (by kernel_rfl) (fun _ _ _ h => h) (Or.inl ⟨by rfl, ?_⟩) ?_ ?_
          rotate_left
          · intro w'
            go_simp
            with_reducible rfl
          rotate_left
          · simp only [Act.put, List.setIfInBounds_toArray, List.set_cons_zero, List.set_cons_succ, i64_w, i32_w]
            rfl
          refine pure_ (i := 4) (N := some 88) (v := ?_) (a' := ?_) #[true, true, true, true, true, false, false, false, false, false, false, false, false, false, false, false] rfl rfl (by kernel_rfl) (fun _ _ _ h => h) (Or.inl ⟨by rfl, ?_⟩) ?_ ?_
          rotate_left
          · intro w'
            go_simp
            with_reducible rfl
          rotate_left
          · simp only [Act.put, List.setIfInBounds_toArray, List.set_cons_zero, List.set_cons_succ, i64_w, i32_w]
            rfl
          refine pure_ (i := 5) (N := some 89) (v := ?_) (a' := ?_) #[true, true, true, true, true, true, false, false, false, false, false, false, false, false, false, false] rfl rfl (by kernel_rfl) (fun _ _ _ h => h) (Or.inl ⟨by rfl, ?_⟩) ?_ ?_
          rotate_left
          · intro w'
            go_simp
            with_reducible rfl
          rotate_left
          · simp only [Act.put, List.setIfInBounds_toArray, List.set_cons_zero, List.set_cons_succ, i64_w, i32_w]
            rfl
          refine pure_ (i := 6) (N := some 90) (v := ?_) (a' := ?_) #[true, true, true, true, true, true, true, false, false, false, false, false, false, false, false, false] rfl rfl (by kernel_rfl) (fun _ _ _ h => h) (Or.inl ⟨by rfl, ?_⟩) ?_ ?_
          rotate_left
          · intro w'
            go_simp
            with_reducible rfl
          rotate_left
          · simp only [Act.put, List.setIfInBounds_toArray, List.set_cons_zero, List.set_cons_succ, i64_w, i32_w]
            rfl
          refine pure_ (i := 8) (N := some 92) (v := ?_) (a' := ?_) #[true, true, true, true, true, true, true, false, true, false, false, false, false, false, false, false] rfl rfl (by kernel_rfl) (fun _ _ _ h => h) (Or.inl ⟨by rfl, ?_⟩) ?_ ?_
          rotate_left
          · intro w'
            go_simp
            with_reducible rfl
          rotate_left
          · simp only [Act.put, List.setIfInBounds_toArray, List.set_cons_zero, List.set_cons_succ, i64_w, i32_w]
            rfl
          refine pure_ (i := 9) (N := some 93) (v := ?_) (a' := ?_) #[true, true, true, true, true, true, true, false, true, true, false, false, false, false, false, false] rfl rfl (by kernel_rfl) (fun _ _ _ h => h) (Or.inl ⟨by rfl, ?_⟩) ?_ ?_
          rotate_left
          · intro w'
            go_simp
            with_reducible rfl
          rotate_left
          · simp only [Act.put, List.setIfInBounds_toArray, List.set_cons_zero, List.set_cons_succ, i64_w, i32_w]
            rfl
          refine pure_ (i := 10) (N := some 94) (v := ?_) (a' := ?_) #[true, true, true, true, true, true, true, false, true, true, true, false, false, false, false, false] rfl rfl (by kernel_rfl) (fun _ _ _ h => h) (Or.inl ⟨by rfl, ?_⟩) ?_ ?_
          rotate_left
          · intro w'
            go_simp
            with_reducible rfl
          rotate_left
          · simp only [Act.put, List.setIfInBounds_toArray, List.set_cons_zero, List.set_cons_succ, i64_w, i32_w]
            rfl
          refine take_ (i := 7) (N := some 91) (v := ?_) (a' := ?_) #[true, true, true, true, true, true, true, true, true, true, true, false, false, false, false, false] rfl rfl (by kernel_rfl) (fun _ _ _ h => h) (Or.inl ⟨by rfl, ?_⟩) hHeld ?_ ?_
          rotate_left
          · rintro w' ⟨s0, s1⟩
            go_simp
            with_reducible rfl
          rotate_left
          · simp only [Act.put, List.setIfInBounds_toArray, List.set_cons_zero, List.set_cons_succ, i64_w, i32_w]
            rfl
          refine take_ (i := 11) (N := some 95) (v := ?_) (a' := ?_) #[true, true, true, true, true, true, true, true, true, true, true, true, false, false, false, false] rfl rfl (by kernel_rfl) (fun _ _ _ h => h) (Or.inl ⟨by rfl, ?_⟩) hHeld ?_ ?_
          rotate_left
          · rintro w' ⟨s0, s1⟩
            go_simp
            with_reducible rfl
          rotate_left
          · simp only [Act.put, List.setIfInBounds_toArray, List.set_cons_zero, List.set_cons_succ, i64_w, i32_w]
            rfl
          refine pure_ (i := 12) (N := some 96) (v := ?_) (a' := ?_) #[true, true, true, true, true, true, true, true, true, true, true, true, true, false, false, false] rfl rfl (by kernel_rfl) (fun _ _ _ h => h) (Or.inl ⟨by rfl, ?_⟩) ?_ ?_
          rotate_left
          · intro w'
            go_simp
            with_reducible rfl
          rotate_left
          · simp only [Act.put, List.setIfInBounds_toArray, List.set_cons_zero, List.set_cons_succ, i64_w, i32_w]
            rfl
          refine last_ (i := 13) (N := none) #[true, true, true, true, true, true, true, true, true, true, true, true, true, true, false, false] rfl rfl (by kernel_rfl) (by decide) (fun K hK => ?_)
          refine skip_ (w1 := ?_) (by rfl) rfl ?_ ?_
          rotate_left
          · go_simp
            rfl
          have HOX : Aside0 (OrdAt (W.setCell ⟨bo, X, none⟩ (.int .i64 (VY : Int))) bo (ord.set X VY)) := ⟨OrdAt.set (w := W) HOW.out X VY⟩
          have HBX : Aside0 (Below w2.heap.size w2 (W.setCell ⟨bo, X, none⟩ (.int .i64 (VY : Int)))) := ⟨HBW.out.setCell (p := ⟨bo, X, none⟩) (by show w2.heap.size ≤ bo; rw [HBO.out]; exact Nat.le_refl _) _⟩
          generalize W.setCell ⟨bo, X, none⟩ (.int .i64 (VY : Int)) = WX at *
          obtain ⟨VZ, y2⟩ : ∃ V, WX.cell? ⟨bo, Y, none⟩ = some V := ⟨_, HOX.out.cell (k := Y) (by rw [List.length_set]; have := HOL.out; omega)⟩
          have y2f := HOX.out.frozen Y
          refine hK.out _ _ ?_
          clear hK K
          refine pure_ (i := 14) (N := some 97) (v := ?_) (a' := ?_) #[true, true, true, true, true, true, true, true, true, true, true, true, true, true, true, false] rfl rfl (by kernel_rfl) (fun _ _ _ h => h) (Or.inl ⟨by rfl, ?_⟩) ?_ ?_
          rotate_left
          · intro w'
            go_simp
            with_reducible rfl
          rotate_left
          · simp only [Act.put, List.setIfInBounds_toArray, List.set_cons_zero, List.set_cons_succ, i64_w, i32_w]
            rfl
          refine last_ (i := 15) (N := none) #[true, true, true, true, true, true, true, true, true, true, true, true, true, true, true, true] rfl rfl (by kernel_rfl) (by decide) (fun K hK => ?_)
          refine skip_ (w1 := ?_) (by rfl) rfl ?_ ?_
          rotate_left
          · go_simp
            rfl
          refine hK.out _ _ ?_
          clear hK K
          refine done_ (by kernel_rfl) ?_
          go_wp2_with fail
          refine ⟨⟨j + 2, swapN ord X Y, by simp, by have := HJ2.out; omega, ⟨?_⟩, ⟨(swapN_perm (by have := HOL.out; omega) (by have := HOL.out; omega)).trans hP.out⟩, ⟨?_⟩⟩, by simp [intOf]; omega⟩
          · have h := HOX.out.set Y VX
            unfold swapN
            rw [← HVX.out, ← HVY.out]
            exact h
          · exact (HBX.out.setCell (p := ⟨bo, Y, none⟩) (by show w2.heap.size ≤ bo; rw [HBO.out]; exact Nat.le_refl _) _).drew
        · have hex : ¬ j + 1 < m ∨ (j + 1 < m ∧ i = 0) := by omega
          have HA4 := Aside0.mk (HMa2.out.below hB.out)
          have HB4 := Aside0.mk (HMb2.out.below hB.out)
          have HBW := Aside0.mk (HB2.out.trans (hB.out.mono (Nat.le_trans hs1 hs2)))
          have hgal := HA4.out.lt
          have hgbl := HB4.out.lt
          have hbol := blk_lt hO.out
          have hgab : ga < gb := by have := hlt; omega
          have hgbo : gb < bo := by rw [HBO.out]; exact HMb2.out.lt.1
          have hs4 : w.heap.size ≤ wr.heap.size := by have := hgal; omega
          have hol : ord.length = i := by rw [hP.out.length_eq, List.length_range]
          have HOL := Aside0.mk hol
          clear hol hlt3
          have j0 : (0 : Int) ≤ (j : Int) + 1 := by omega
          rcases hex with h | ⟨h, h0⟩
          · have e0 : decide ((j : Int) + 1 < (m : Int)) = false := decide_eq_false (by omega)
            clear h
            obtain ⟨w4, rfl⟩ : ∃ w4 : World, w4 = wr := ⟨_, rfl⟩
            go_wp2_with fail
            have hz : ∀ ord : List Nat, gots ((ord.take 0).map (ordS xs)) = Mt.made 1048576 := fun ord => by simp [gots, gotsF]
            have HZ := Aside0.mk hz
            clear hz
            go_loopw [14] (fun v wr => GotRel w4 w.heap.size ga i xs (List.range i) v wr) (fun v _ => i - (intOf v).toNat)
            case atStart => exact ⟨0, rfl, by omega, ⟨by rw [HZ.out]; exact made_okM (by omega) (by omega)⟩, ⟨by rw [HZ.out]; exact MRun.start HA4.out⟩⟩
            case round =>
              obtain ⟨k, rfl, hk, hOk, hS⟩ := hrel
              have HBw : Aside0 (Below w.heap.size w wr) := ⟨HBW.out.trans (hS.out.touch.toBelow hs4 (fun q hq => by omega))⟩
              by_cases hlt5 : k < i
              · obtain ⟨ad1, hA1, t1⟩ := Kd.at_int (Kd.C_below HC1.out HBw.out) (k : Int) (by omega) (by omega)
                subst hA1
                simp only [Int.toNat_natCast] at t1
                have hr1 := HW1.out (rd xs (k : Int)) (by unfold rd; rw [Int.toNat_natCast, List.getD_eq_getElem?_getD, List.getElem?_eq_getElem (by rw [← HN.out]; omega)]; exact List.getElem_mem _)
                have hst : gots (((List.range i).take (k + 1)).map (ordS xs)) = (gots (((List.range i).take k).map (ordS xs))).got (rd xs (k : Int)) (100 + (k : Int)) := by
                  rw [take_map_succ (by rw [List.length_range]; omega), gots_snoc]
                  have : (List.range i).getD k 0 = k := by rw [List.getD_eq_getElem?_getD, List.getElem?_eq_getElem (by rw [List.length_range]; omega)]; simp
                  rw [this]
                  rfl
                have HST := Aside0.mk hst
                obtain ⟨R1, hR1⟩ : ∃ R, R = rd xs (k : Int) := ⟨_, rfl⟩
                rw [← hR1] at t1 hr1 HST
                have r0 := hr1.1
                have r1 := hr1.2
                clear hr1 hR1 hst
                have i0 : (0 : Int) ≤ (k : Int) := by omega
                have i1 : (k : Int) < (i : Int) := by omega
                go_wp2_with fail
                refine (mrun_got R1 (100 + (k : Int)) hS.out hOk.out (by omega)).mono ?_
                rintro e w6 ⟨rfl, h6⟩
                have H6 : Aside0 (MRun w4 w6 w.heap.size ga (gots (((List.range i).take (k + 1)).map (ordS xs)))) := ⟨by rw [HST.out]; exact h6⟩
                have O6 : Aside0 (MtOk (gots (((List.range i).take (k + 1)).map (ordS xs))) (k + 1)) := ⟨by rw [HST.out]; exact hOk.out.got _ _⟩
                clear h6
                go_wp2_with fail
                exact ⟨⟨k + 1, by simp, by omega, O6, H6⟩, by simp [intOf]; omega⟩
              · obtain rfl : k = i := by omega
                have hta : ((List.range k).take k).map (ordS xs) = (List.range k).map (ordS xs) := by rw [List.take_of_length_le (by rw [List.length_range]; exact Nat.le_refl _)]
                rw [hta] at hOk hS
                have hT := hS.out.touch
                have HB5 := Aside0.mk (HB4.out.frozenTouch (by omega) ⟨none, HA4.out⟩ hT)
                have HO5 : Aside0 (OrdAt wr bo ord) := ⟨(hT.block bo hbol (by omega)).trans hO.out⟩
                have hs5 := hT.size
                clear hta hT
                obtain ⟨w5, rfl⟩ : ∃ w5 : World, w5 = wr := ⟨_, rfl⟩
                go_wp2_with fail
                go_loopw [15] (fun v wr => GotRel w5 w.heap.size gb k xs ord v wr) (fun v _ => k - (intOf v).toNat)
                case atStart => exact ⟨0, rfl, by omega, ⟨by rw [HZ.out]; exact made_okM (by omega) (by omega)⟩, ⟨by rw [HZ.out]; exact MRun.start HB5.out⟩⟩
                case round =>
                  obtain ⟨q, rfl, hq, hOq, hSq⟩ := hrel
                  have hTq := hSq.out.touch
                  have HBw2 : Aside0 (Below w.heap.size w wr) := ⟨HBw.out.trans (hTq.toBelow (by omega) (fun q hq => by omega))⟩
                  have HO6 : Aside0 (OrdAt wr bo ord) := ⟨(hTq.block bo (blk_lt HO5.out) (by omega)).trans HO5.out⟩
                  clear hTq
                  by_cases hlt6 : q < k
                  · obtain ⟨J, hJ⟩ : ∃ J, J = ord.getD q 0 := ⟨_, rfl⟩
                    have hJk : J < k := by
                      have hm : J ∈ ord := by rw [hJ, List.getD_eq_getElem?_getD, List.getElem?_eq_getElem (by rw [HOL.out]; exact hlt6)]; exact List.getElem_mem _
                      exact List.mem_range.1 (hP.out.mem_iff.1 hm)
                    have c1 := HO6.out.cell (k := q) (by rw [HOL.out]; exact hlt6)
                    rw [← hJ] at c1
                    obtain ⟨ad1, hA1, t1⟩ := Kd.at_int (Kd.C_below HC1.out HBw2.out) (J : Int) (by omega) (by omega)
                    subst hA1
                    simp only [Int.toNat_natCast] at t1
                    have hr1 := HW1.out (rd xs (J : Int)) (by unfold rd; rw [Int.toNat_natCast, List.getD_eq_getElem?_getD, List.getElem?_eq_getElem (by rw [← HN.out]; omega)]; exact List.getElem_mem _)
                    have hst : gots ((ord.take (q + 1)).map (ordS xs)) = (gots ((ord.take q).map (ordS xs))).got (rd xs (J : Int)) (100 + (J : Int)) := by
                      rw [take_map_succ (by rw [HOL.out]; exact hlt6), gots_snoc, ← hJ]
                      rfl
                    have HST := Aside0.mk hst
                    obtain ⟨R1, hR1⟩ : ∃ R, R = rd xs (J : Int) := ⟨_, rfl⟩
                    rw [← hR1] at t1 hr1 HST
                    have r0 := hr1.1
                    have r1 := hr1.2
                    have CG := Aside0.mk (fun w' (h : MRun w5 w' w.heap.size gb (gots ((ord.take q).map (ordS xs)))) => mrun_got R1 (100 + (J : Int)) h hOq.out (by omega))
                    have HSd := Aside0.mk (hSq.out.below ((Below.refl _ _).drew))
                    clear hr1 hR1 hst hJ
                    have i0 : (0 : Int) ≤ (q : Int) := by omega
                    have i1 : (q : Int) < (k : Int) := by omega
                    have i2 : (0 : Int) ≤ (J : Int) := by omega
                    have i3 : (J : Int) < (k : Int) := by omega
                    have i4 : wrap64 (100 + (J : Int)) = 100 + (J : Int) := by unfold wrap64; omega
                    have i7 : IntKind.i64.wrap (100 + (J : Int)) = 100 + (J : Int) := by rw [i64_w]; exact i4
                    have i5 : IntKind.i64.wrap R1 = R1 := by rw [i64_w]; unfold wrap64; omega
                    have i6 : wrap64 R1 = R1 := by unfold wrap64; omega
                    go_wp2_with fail
                    refine start_ (n := 15) (S := fun w' => w'.cell? ⟨bo, q, none⟩ = some (.int .i64 (J : Int)) ∧ w'.cell? (ad1.add J) = some (.int .u16 R1) ∧ Aside0 (MRun w5 w' w.heap.size gb (gots ((ord.take q).map (ordS xs))))) (ds := [14]) #[false, false, false, false, false, false, false, false, false, false, false, false, false, false, false] (by kernel_rfl) rfl rfl ⟨c1, t1, HSd⟩ (fun hHeld => ?_)
                    refine pure_ (i := 0) (N := some 119) (v := ?_) (a' := ?_) #[true, false, false, false, false, false, false, false, false, false, false, false, false, false, false] rfl rfl (by kernel_rfl) (fun _ _ _ h => h) (Or.inl ⟨by rfl, ?_⟩) ?_ ?_
                    rotate_left
                    · intro w'
                      go_simp
                      with_reducible rfl
                    rotate_left
                    · simp only [Act.put, List.setIfInBounds_toArray, List.set_cons_zero, List.set_cons_succ, i64_w, i32_w]
                      rfl
                    refine pure_ (i := 1) (N := some 120) (v := ?_) (a' := ?_) #[true, true, false, false, false, false, false, false, false, false, false, false, false, false, false] rfl rfl (by kernel_rfl) (fun _ _ _ h => h) (Or.inl ⟨by rfl, ?_⟩) ?_ ?_
                    rotate_left
                    · intro w'
                      go_simp
                      with_reducible rfl
                    rotate_left
                    · simp only [Act.put, List.setIfInBounds_toArray, List.set_cons_zero, List.set_cons_succ, i64_w, i32_w]
                      rfl
                    refine pure_ (i := 2) (N := some 121) (v := ?_) (a' := ?_) #[true, true, true, false, false, false, false, false, false, false, false, false, false, false, false] rfl rfl (by kernel_rfl) (fun _ _ _ h => h) (Or.inl ⟨by rfl, ?_⟩) ?_ ?_
                    rotate_left
                    · intro w'
                      go_simp
                      with_reducible rfl
                    rotate_left
                    · simp only [Act.put, List.setIfInBounds_toArray, List.set_cons_zero, List.set_cons_succ, i64_w, i32_w]
                      rfl
                    refine pure_ (i := 3) (N := some 122) (v := ?_) (a' := ?_) #[true, true, true, true, false, false, false, false, false, false, false, false, false, false, false] rfl rfl (by kernel_rfl) (fun _ _ _ h => h) (Or.inl ⟨by rfl, ?_⟩) ?_ ?_
                    rotate_left
                    · intro w'
                      go_simp
                      with_reducible rfl
                    rotate_left
                    · simp only [Act.put, List.setIfInBounds_toArray, List.set_cons_zero, List.set_cons_succ, i64_w, i32_w]
                      rfl
                    refine pure_ (i := 4) (N := some 123) (v := ?_) (a' := ?_) #[true, true, true, true, true, false, false, false, false, false, false, false, false, false, false] rfl rfl (by kernel_rfl) (fun _ _ _ h => h) (Or.inl ⟨by rfl, ?_⟩) ?_ ?_
                    rotate_left
                    · intro w'
                      go_simp
                      with_reducible rfl
                    rotate_left
                    · simp only [Act.put, List.setIfInBounds_toArray, List.set_cons_zero, List.set_cons_succ, i64_w, i32_w]
                      rfl
                    refine pure_ (i := 9) (N := some 128) (v := ?_) (a' := ?_) #[true, true, true, true, true, false, false, false, false, true, false, false, false, false, false] rfl rfl (by kernel_rfl) (fun _ _ _ h => h) (Or.inl ⟨by rfl, ?_⟩) ?_ ?_
                    rotate_left
                    · intro w'
                      go_simp
                      with_reducible rfl
                    rotate_left
                    · simp only [Act.put, List.setIfInBounds_toArray, List.set_cons_zero, List.set_cons_succ, i64_w, i32_w]
                      rfl
                    refine pure_ (i := 10) (N := some 129) (v := ?_) (a' := ?_) #[true, true, true, true, true, false, false, false, false, true, true, false, false, false, false] rfl rfl (by kernel_rfl) (fun _ _ _ h => h) (Or.inl ⟨by rfl, ?_⟩) ?_ ?_
                    rotate_left
                    · intro w'
                      go_simp
                      with_reducible rfl
                    rotate_left
                    · simp only [Act.put, List.setIfInBounds_toArray, List.set_cons_zero, List.set_cons_succ, i64_w, i32_w]
                      rfl
                    refine pure_ (i := 11) (N := some 130) (v := ?_) (a' := ?_) #[true, true, true, true, true, false, false, false, false, true, true, true, false, false, false] rfl rfl (by kernel_rfl) (fun _ _ _ h => h) (Or.inl ⟨by rfl, ?_⟩) ?_ ?_
                    rotate_left
                    · intro w'
                      go_simp
                      with_reducible rfl
                    rotate_left
                    · simp only [Act.put, List.setIfInBounds_toArray, List.set_cons_zero, List.set_cons_succ, i64_w, i32_w]
                      rfl
                    refine take_ (i := 5) (N := some 124) (v := ?_) (a' := ?_) #[true, true, true, true, true, true, false, false, false, true, true, true, false, false, false] rfl rfl (by kernel_rfl) (fun _ _ _ h => h) (Or.inl ⟨by rfl, ?_⟩) hHeld ?_ ?_
                    rotate_left
                    · rintro w' ⟨s0, s1, s2⟩
                      go_simp
                      with_reducible rfl
                    rotate_left
                    · simp only [Act.put, List.setIfInBounds_toArray, List.set_cons_zero, List.set_cons_succ, i64_w, i32_w]
                      rfl
                    refine pure_ (i := 6) (N := some 125) (v := ?_) (a' := ?_) #[true, true, true, true, true, true, true, false, false, true, true, true, false, false, false] rfl rfl (by kernel_rfl) (fun _ _ _ h => h) (Or.inl ⟨by rfl, ?_⟩) ?_ ?_
                    rotate_left
                    · intro w'
                      go_simp
                      with_reducible rfl
                    rotate_left
                    · simp only [Act.put, List.setIfInBounds_toArray, List.set_cons_zero, List.set_cons_succ, i64_w, i32_w]
                      rfl
                    refine take_ (i := 7) (N := some 126) (v := ?_) (a' := ?_) #[true, true, true, true, true, true, true, true, false, true, true, true, false, false, false] rfl rfl (by kernel_rfl) (fun _ _ _ h => h) (Or.inl ⟨by rfl, ?_⟩) hHeld ?_ ?_
                    rotate_left
                    · rintro w' ⟨s0, s1, s2⟩
                      go_simp
                      with_reducible rfl
                    rotate_left
                    · simp only [Act.put, List.setIfInBounds_toArray, List.set_cons_zero, List.set_cons_succ, i64_w, i32_w]
                      rfl
                    refine pure_ (i := 8) (N := some 127) (v := ?_) (a' := ?_) #[true, true, true, true, true, true, true, true, true, true, true, true, false, false, false] rfl rfl (by kernel_rfl) (fun _ _ _ h => h) (Or.inl ⟨by rfl, ?_⟩) ?_ ?_
                    rotate_left
                    · intro w'
                      go_simp
                      with_reducible rfl
                    rotate_left
                    · simp only [Act.put, List.setIfInBounds_toArray, List.set_cons_zero, List.set_cons_succ, i64_w, i32_w]
                      rfl
                    refine take_ (i := 12) (N := some 131) (v := ?_) (a' := ?_) #[true, true, true, true, true, true, true, true, true, true, true, true, true, false, false] rfl rfl (by kernel_rfl) (fun _ _ _ h => h) (Or.inl ⟨by rfl, ?_⟩) hHeld ?_ ?_
                    rotate_left
                    · rintro w' ⟨s0, s1, s2⟩
                      go_simp
                      with_reducible rfl
                    rotate_left
                    · simp only [Act.put, List.setIfInBounds_toArray, List.set_cons_zero, List.set_cons_succ, i64_w, i32_w]
                      rfl
                    refine pure_ (i := 13) (N := some 132) (v := ?_) (a' := ?_) #[true, true, true, true, true, true, true, true, true, true, true, true, true, true, false] rfl rfl (by kernel_rfl) (fun _ _ _ h => h) (Or.inl ⟨by rfl, ?_⟩) ?_ ?_
                    rotate_left
                    · intro w'
                      go_simp
                      with_reducible rfl
                    rotate_left
                    · simp only [Act.put, List.setIfInBounds_toArray, List.set_cons_zero, List.set_cons_succ, i64_w, i32_w]
                      rfl
                    refine last_ (i := 14) (N := some 133) #[true, true, true, true, true, true, true, true, true, true, true, true, true, true, true] rfl rfl (by kernel_rfl) (by decide) (fun K hK => ?_)
                    refine goes_ Try.func10 (by kernel_rfl) rfl #[.pointer (some ⟨gb, 0, none⟩), .int .i64 R1, .int .i64 (100 + (J : Int))] (by rfl) rfl rfl (by simp only [List.map_toArray, List.map_cons, List.map_nil]; rfl) ?_
                    with_reducible refine (CG.out _ hHeld.2.2.out).mono ?_
                    rintro e w6 ⟨rfl, h6⟩
                    refine ⟨_, rfl, ?_⟩
                    refine hK.out _ _ ?_
                    clear hK K
                    refine norm_ (a' := ?_) ?_ ?_
                    rotate_left
                    · show Act.put _ (some 133) _ = _
                      simp only [Act.put, List.setIfInBounds_toArray, List.set_cons_zero, List.set_cons_succ, i64_w, i32_w]
                      rfl
                    refine done_ (by kernel_rfl) ?_
                    have H6 : Aside0 (MRun w5 w6 w.heap.size gb (gots ((ord.take (q + 1)).map (ordS xs)))) := ⟨by rw [HST.out]; exact h6⟩
                    have O6 : Aside0 (MtOk (gots ((ord.take (q + 1)).map (ordS xs))) (q + 1)) := ⟨by rw [HST.out]; exact hOq.out.got _ _⟩
                    clear h6
                    go_wp2_with fail
                    exact ⟨⟨q + 1, by simp, by omega, O6, H6⟩, by simp [intOf]; omega⟩
                  · obtain rfl : q = k := by omega
                    have hta : (ord.take q).map (ordS xs) = ord.map (ordS xs) := by rw [List.take_of_length_le (by rw [HOL.out]; exact Nat.le_refl _)]
                    rw [hta] at hOq hSq
                    obtain ⟨bsa, hA6⟩ := hS.out.frozen ⟨none, HB5.out⟩ (by omega) hSq.out.touch
                    obtain ⟨bsb, hB6⟩ := hSq.out.is
                    have hperm := GtIs.perm (gots_is (l := (List.range q).map (ordS xs)) (fun p hp => by
                      obtain ⟨j, hj, e⟩ := List.mem_map.1 hp
                      rw [← e]
                      exact ordS_ok HW1.out (by rw [← HN.out]; exact List.mem_range.1 hj) (by rw [← HN.out]; exact hn))) (gots_is (l := ord.map (ordS xs)) (fun p hp => by
                      obtain ⟨j, hj, e⟩ := List.mem_map.1 hp
                      rw [← e]
                      exact ordS_ok HW1.out (by rw [← HN.out]; exact List.mem_range.1 (hP.out.mem_iff.1 hj)) (by rw [← HN.out]; exact hn))) (hP.out.symm.map _)
                    generalize gots ((List.range q).map (ordS xs)) = sa at *
                    generalize gots (ord.map (ordS xs)) = sb at *
                    have HA6 := Aside0.mk hA6
                    have HB6 := Aside0.mk hB6
                    obtain ⟨p1, p2, p3⟩ := hperm
                    obtain ⟨BB, hBB⟩ : ∃ B, B = sumS sb.l := ⟨_, rfl⟩
                    obtain ⟨RR, hRR⟩ : ∃ B, B = sb.rate := ⟨_, rfl⟩
                    obtain ⟨FF, hFF⟩ : ∃ B, B = sb.full := ⟨_, rfl⟩
                    rw [← hBB] at p1
                    rw [← hRR] at p2
                    rw [← hFF] at p3
                    have HPP := Aside0.mk (And.intro p1 (And.intro p2 (And.intro p3 (And.intro hBB (And.intro hRR hFF)))))
                    clear hA6 hB6 p1 p2 p3 hBB hRR hFF hta HA4 HB4 HB5
                    go_wp2_with fail
                    refine (mbytes_any HA6.out).mono ?_
                    rintro e v1 ⟨rfl, hv⟩
                    obtain rfl := hv.symm
                    rw [HPP.out.1]
                    go_wp2_with fail
                    refine (mbytes_any HB6.out).mono ?_
                    rintro e v1 ⟨rfl, hv⟩
                    obtain rfl := hv.symm
                    rw [← HPP.out.2.2.2.1]
                    go_wp2_with fail
                    refine (mrate_any HA6.out hOk.out (by omega)).mono ?_
                    rintro e v1 ⟨rfl, hv1⟩
                    rw [HPP.out.2.1]
                    have HV1 := Aside0.mk hv1
                    have HB7 := Aside0.mk (HB6.out.below hv1)
                    have HA7 := Aside0.mk (HA6.out.below hv1)
                    clear hv1
                    go_wp2_with fail
                    refine (mrate_any HB7.out hOq.out (by omega)).mono ?_
                    rintro e v2 ⟨rfl, hv2⟩
                    rw [← HPP.out.2.2.2.2.1]
                    have HV2 := Aside0.mk (HV1.out.trans (hv2.mono HV1.out.size))
                    have HA8 := Aside0.mk (HA7.out.below hv2)
                    have HB8 := Aside0.mk (HB7.out.below hv2)
                    clear hv2
                    go_wp2_with fail
                    refine (mfull_any HA8.out hOk.out).mono ?_
                    rintro e v3 ⟨rfl, hv3⟩
                    rw [HPP.out.2.2.1]
                    have HV3 := Aside0.mk (HV2.out.trans (hv3.mono HV2.out.size))
                    have HB9 := Aside0.mk (HB8.out.below hv3)
                    clear hv3
                    go_wp2_with fail
                    refine (mfull_any HB9.out hOq.out).mono ?_
                    rintro e v4 ⟨rfl, hv4⟩
                    rw [← HPP.out.2.2.2.2.2]
                    have HV4 := Aside0.mk (HV3.out.trans (hv4.mono HV3.out.size))
                    clear hv4
                    go_wp2_with fail
                    refine (wakes_any _).mono ?_
                    rintro e v5 ⟨rfl, hv5⟩
                    have HV5 := Aside0.mk (HV4.out.trans (hv5.mono HV4.out.size))
                    clear hv5
                    go_wp2_with fail
                    go_ret
                    exact ⟨rfl, HBw2.out.trans (HV5.out.mono (by have := hSq.out.touch.size; omega))⟩
          · have e0 : decide ((j : Int) + 1 < (m : Int)) = true := decide_eq_true (by omega)
            have e1 : decide (0 < (i : Int)) = false := decide_eq_false (by omega)
            have e2 : decide (0 < i) = false := decide_eq_false (by omega)
            clear h h0
            obtain ⟨w4, rfl⟩ : ∃ w4 : World, w4 = wr := ⟨_, rfl⟩
            go_wp2_with fail
            have hz : ∀ ord : List Nat, gots ((ord.take 0).map (ordS xs)) = Mt.made 1048576 := fun ord => by simp [gots, gotsF]
            have HZ := Aside0.mk hz
            clear hz
            go_loopw [14] (fun v wr => GotRel w4 w.heap.size ga i xs (List.range i) v wr) (fun v _ => i - (intOf v).toNat)
            case atStart => exact ⟨0, rfl, by omega, ⟨by rw [HZ.out]; exact made_okM (by omega) (by omega)⟩, ⟨by rw [HZ.out]; exact MRun.start HA4.out⟩⟩
            case round =>
              obtain ⟨k, rfl, hk, hOk, hS⟩ := hrel
              have HBw : Aside0 (Below w.heap.size w wr) := ⟨HBW.out.trans (hS.out.touch.toBelow hs4 (fun q hq => by omega))⟩
              by_cases hlt5 : k < i
              · obtain ⟨ad1, hA1, t1⟩ := Kd.at_int (Kd.C_below HC1.out HBw.out) (k : Int) (by omega) (by omega)
                subst hA1
                simp only [Int.toNat_natCast] at t1
                have hr1 := HW1.out (rd xs (k : Int)) (by unfold rd; rw [Int.toNat_natCast, List.getD_eq_getElem?_getD, List.getElem?_eq_getElem (by rw [← HN.out]; omega)]; exact List.getElem_mem _)
                have hst : gots (((List.range i).take (k + 1)).map (ordS xs)) = (gots (((List.range i).take k).map (ordS xs))).got (rd xs (k : Int)) (100 + (k : Int)) := by
                  rw [take_map_succ (by rw [List.length_range]; omega), gots_snoc]
                  have : (List.range i).getD k 0 = k := by rw [List.getD_eq_getElem?_getD, List.getElem?_eq_getElem (by rw [List.length_range]; omega)]; simp
                  rw [this]
                  rfl
                have HST := Aside0.mk hst
                obtain ⟨R1, hR1⟩ : ∃ R, R = rd xs (k : Int) := ⟨_, rfl⟩
                rw [← hR1] at t1 hr1 HST
                have r0 := hr1.1
                have r1 := hr1.2
                clear hr1 hR1 hst
                have i0 : (0 : Int) ≤ (k : Int) := by omega
                have i1 : (k : Int) < (i : Int) := by omega
                go_wp2_with fail
                refine (mrun_got R1 (100 + (k : Int)) hS.out hOk.out (by omega)).mono ?_
                rintro e w6 ⟨rfl, h6⟩
                have H6 : Aside0 (MRun w4 w6 w.heap.size ga (gots (((List.range i).take (k + 1)).map (ordS xs)))) := ⟨by rw [HST.out]; exact h6⟩
                have O6 : Aside0 (MtOk (gots (((List.range i).take (k + 1)).map (ordS xs))) (k + 1)) := ⟨by rw [HST.out]; exact hOk.out.got _ _⟩
                clear h6
                go_wp2_with fail
                exact ⟨⟨k + 1, by simp, by omega, O6, H6⟩, by simp [intOf]; omega⟩
              · obtain rfl : k = i := by omega
                have hta : ((List.range k).take k).map (ordS xs) = (List.range k).map (ordS xs) := by rw [List.take_of_length_le (by rw [List.length_range]; exact Nat.le_refl _)]
                rw [hta] at hOk hS
                have hT := hS.out.touch
                have HB5 := Aside0.mk (HB4.out.frozenTouch (by omega) ⟨none, HA4.out⟩ hT)
                have HO5 : Aside0 (OrdAt wr bo ord) := ⟨(hT.block bo hbol (by omega)).trans hO.out⟩
                have hs5 := hT.size
                clear hta hT
                obtain ⟨w5, rfl⟩ : ∃ w5 : World, w5 = wr := ⟨_, rfl⟩
                go_wp2_with fail
                go_loopw [15] (fun v wr => GotRel w5 w.heap.size gb k xs ord v wr) (fun v _ => k - (intOf v).toNat)
                case atStart => exact ⟨0, rfl, by omega, ⟨by rw [HZ.out]; exact made_okM (by omega) (by omega)⟩, ⟨by rw [HZ.out]; exact MRun.start HB5.out⟩⟩
                case round =>
                  obtain ⟨q, rfl, hq, hOq, hSq⟩ := hrel
                  have hTq := hSq.out.touch
                  have HBw2 : Aside0 (Below w.heap.size w wr) := ⟨HBw.out.trans (hTq.toBelow (by omega) (fun q hq => by omega))⟩
                  have HO6 : Aside0 (OrdAt wr bo ord) := ⟨(hTq.block bo (blk_lt HO5.out) (by omega)).trans HO5.out⟩
                  clear hTq
                  by_cases hlt6 : q < k
                  · obtain ⟨J, hJ⟩ : ∃ J, J = ord.getD q 0 := ⟨_, rfl⟩
                    have hJk : J < k := by
                      have hm : J ∈ ord := by rw [hJ, List.getD_eq_getElem?_getD, List.getElem?_eq_getElem (by rw [HOL.out]; exact hlt6)]; exact List.getElem_mem _
                      exact List.mem_range.1 (hP.out.mem_iff.1 hm)
                    have c1 := HO6.out.cell (k := q) (by rw [HOL.out]; exact hlt6)
                    rw [← hJ] at c1
                    obtain ⟨ad1, hA1, t1⟩ := Kd.at_int (Kd.C_below HC1.out HBw2.out) (J : Int) (by omega) (by omega)
                    subst hA1
                    simp only [Int.toNat_natCast] at t1
                    have hr1 := HW1.out (rd xs (J : Int)) (by unfold rd; rw [Int.toNat_natCast, List.getD_eq_getElem?_getD, List.getElem?_eq_getElem (by rw [← HN.out]; omega)]; exact List.getElem_mem _)
                    have hst : gots ((ord.take (q + 1)).map (ordS xs)) = (gots ((ord.take q).map (ordS xs))).got (rd xs (J : Int)) (100 + (J : Int)) := by
                      rw [take_map_succ (by rw [HOL.out]; exact hlt6), gots_snoc, ← hJ]
                      rfl
                    have HST := Aside0.mk hst
                    obtain ⟨R1, hR1⟩ : ∃ R, R = rd xs (J : Int) := ⟨_, rfl⟩
                    rw [← hR1] at t1 hr1 HST
                    have r0 := hr1.1
                    have r1 := hr1.2
                    have CG := Aside0.mk (fun w' (h : MRun w5 w' w.heap.size gb (gots ((ord.take q).map (ordS xs)))) => mrun_got R1 (100 + (J : Int)) h hOq.out (by omega))
                    have HSd := Aside0.mk (hSq.out.below ((Below.refl _ _).drew))
                    clear hr1 hR1 hst hJ
                    have i0 : (0 : Int) ≤ (q : Int) := by omega
                    have i1 : (q : Int) < (k : Int) := by omega
                    have i2 : (0 : Int) ≤ (J : Int) := by omega
                    have i3 : (J : Int) < (k : Int) := by omega
                    have i4 : wrap64 (100 + (J : Int)) = 100 + (J : Int) := by unfold wrap64; omega
                    have i7 : IntKind.i64.wrap (100 + (J : Int)) = 100 + (J : Int) := by rw [i64_w]; exact i4
                    have i5 : IntKind.i64.wrap R1 = R1 := by rw [i64_w]; unfold wrap64; omega
                    have i6 : wrap64 R1 = R1 := by unfold wrap64; omega
                    go_wp2_with fail
                    refine start_ (n := 15) (S := fun w' => w'.cell? ⟨bo, q, none⟩ = some (.int .i64 (J : Int)) ∧ w'.cell? (ad1.add J) = some (.int .u16 R1) ∧ Aside0 (MRun w5 w' w.heap.size gb (gots ((ord.take q).map (ordS xs))))) (ds := [14]) #[false, false, false, false, false, false, false, false, false, false, false, false, false, false, false] (by kernel_rfl) rfl rfl ⟨c1, t1, HSd⟩ (fun hHeld => ?_)
                    refine pure_ (i := 0) (N := some 119) (v := ?_) (a' := ?_) #[true, false, false, false, false, false, false, false, false, false, false, false, false, false, false] rfl rfl (by kernel_rfl) (fun _ _ _ h => h) (Or.inl ⟨by rfl, ?_⟩) ?_ ?_
                    rotate_left
                    · intro w'
                      go_simp
                      with_reducible rfl
                    rotate_left
                    · simp only [Act.put, List.setIfInBounds_toArray, List.set_cons_zero, List.set_cons_succ, i64_w, i32_w]
                      rfl
                    refine pure_ (i := 1) (N := some 120) (v := ?_) (a' := ?_) #[true, true, false, false, false, false, false, false, false, false, false, false, false, false, false] rfl rfl (by kernel_rfl) (fun _ _ _ h => h) (Or.inl ⟨by rfl, ?_⟩) ?_ ?_
                    rotate_left
                    · intro w'
                      go_simp
                      with_reducible rfl
                    rotate_left
                    · simp only [Act.put, List.setIfInBounds_toArray, List.set_cons_zero, List.set_cons_succ, i64_w, i32_w]
                      rfl
                    refine pure_ (i := 2) (N := some 121) (v := ?_) (a' := ?_) #[true, true, true, false, false, false, false, false, false, false, false, false, false, false, false] rfl rfl (by kernel_rfl) (fun _ _ _ h => h) (Or.inl ⟨by rfl, ?_⟩) ?_ ?_
                    rotate_left
                    · intro w'
                      go_simp
                      with_reducible rfl
                    rotate_left
                    · simp only [Act.put, List.setIfInBounds_toArray, List.set_cons_zero, List.set_cons_succ, i64_w, i32_w]
                      rfl
                    refine pure_ (i := 3) (N := some 122) (v := ?_) (a' := ?_) #[true, true, true, true, false, false, false, false, false, false, false, false, false, false, false] rfl rfl (by kernel_rfl) (fun _ _ _ h => h) (Or.inl ⟨by rfl, ?_⟩) ?_ ?_
                    rotate_left
                    · intro w'
                      go_simp
                      with_reducible rfl
                    rotate_left
                    · simp only [Act.put, List.setIfInBounds_toArray, List.set_cons_zero, List.set_cons_succ, i64_w, i32_w]
                      rfl
                    refine pure_ (i := 4) (N := some 123) (v := ?_) (a' := ?_) #[true, true, true, true, true, false, false, false, false, false, false, false, false, false, false] rfl rfl (by kernel_rfl) (fun _ _ _ h => h) (Or.inl ⟨by rfl, ?_⟩) ?_ ?_
                    rotate_left
                    · intro w'
                      go_simp
                      with_reducible rfl
                    rotate_left
                    · simp only [Act.put, List.setIfInBounds_toArray, List.set_cons_zero, List.set_cons_succ, i64_w, i32_w]
                      rfl
                    refine pure_ (i := 9) (N := some 128) (v := ?_) (a' := ?_) #[true, true, true, true, true, false, false, false, false, true, false, false, false, false, false] rfl rfl (by kernel_rfl) (fun _ _ _ h => h) (Or.inl ⟨by rfl, ?_⟩) ?_ ?_
                    rotate_left
                    · intro w'
                      go_simp
                      with_reducible rfl
                    rotate_left
                    · simp only [Act.put, List.setIfInBounds_toArray, List.set_cons_zero, List.set_cons_succ, i64_w, i32_w]
                      rfl
                    refine pure_ (i := 10) (N := some 129) (v := ?_) (a' := ?_) #[true, true, true, true, true, false, false, false, false, true, true, false, false, false, false] rfl rfl (by kernel_rfl) (fun _ _ _ h => h) (Or.inl ⟨by rfl, ?_⟩) ?_ ?_
                    rotate_left
                    · intro w'
                      go_simp
                      with_reducible rfl
                    rotate_left
                    · simp only [Act.put, List.setIfInBounds_toArray, List.set_cons_zero, List.set_cons_succ, i64_w, i32_w]
                      rfl
                    refine pure_ (i := 11) (N := some 130) (v := ?_) (a' := ?_) #[true, true, true, true, true, false, false, false, false, true, true, true, false, false, false] rfl rfl (by kernel_rfl) (fun _ _ _ h => h) (Or.inl ⟨by rfl, ?_⟩) ?_ ?_
                    rotate_left
                    · intro w'
                      go_simp
                      with_reducible rfl
                    rotate_left
                    · simp only [Act.put, List.setIfInBounds_toArray, List.set_cons_zero, List.set_cons_succ, i64_w, i32_w]
                      rfl
                    refine take_ (i := 5) (N := some 124) (v := ?_) (a' := ?_) #[true, true, true, true, true, true, false, false, false, true, true, true, false, false, false] rfl rfl (by kernel_rfl) (fun _ _ _ h => h) (Or.inl ⟨by rfl, ?_⟩) hHeld ?_ ?_
                    rotate_left
                    · rintro w' ⟨s0, s1, s2⟩
                      go_simp
                      with_reducible rfl
                    rotate_left
                    · simp only [Act.put, List.setIfInBounds_toArray, List.set_cons_zero, List.set_cons_succ, i64_w, i32_w]
                      rfl
                    refine pure_ (i := 6) (N := some 125) (v := ?_) (a' := ?_) #[true, true, true, true, true, true, true, false, false, true, true, true, false, false, false] rfl rfl (by kernel_rfl) (fun _ _ _ h => h) (Or.inl ⟨by rfl, ?_⟩) ?_ ?_
                    rotate_left
                    · intro w'
                      go_simp
                      with_reducible rfl
                    rotate_left
                    · simp only [Act.put, List.setIfInBounds_toArray, List.set_cons_zero, List.set_cons_succ, i64_w, i32_w]
                      rfl
                    refine take_ (i := 7) (N := some 126) (v := ?_) (a' := ?_) #[true, true, true, true, true, true, true, true, false, true, true, true, false, false, false] rfl rfl (by kernel_rfl) (fun _ _ _ h => h) (Or.inl ⟨by rfl, ?_⟩) hHeld ?_ ?_
                    rotate_left
                    · rintro w' ⟨s0, s1, s2⟩
                      go_simp
                      with_reducible rfl
                    rotate_left
                    · simp only [Act.put, List.setIfInBounds_toArray, List.set_cons_zero, List.set_cons_succ, i64_w, i32_w]
                      rfl
                    refine pure_ (i := 8) (N := some 127) (v := ?_) (a' := ?_) #[true, true, true, true, true, true, true, true, true, true, true, true, false, false, false] rfl rfl (by kernel_rfl) (fun _ _ _ h => h) (Or.inl ⟨by rfl, ?_⟩) ?_ ?_
                    rotate_left
                    · intro w'
                      go_simp
                      with_reducible rfl
                    rotate_left
                    · simp only [Act.put, List.setIfInBounds_toArray, List.set_cons_zero, List.set_cons_succ, i64_w, i32_w]
                      rfl
                    refine take_ (i := 12) (N := some 131) (v := ?_) (a' := ?_) #[true, true, true, true, true, true, true, true, true, true, true, true, true, false, false] rfl rfl (by kernel_rfl) (fun _ _ _ h => h) (Or.inl ⟨by rfl, ?_⟩) hHeld ?_ ?_
                    rotate_left
                    · rintro w' ⟨s0, s1, s2⟩
                      go_simp
                      with_reducible rfl
                    rotate_left
                    · simp only [Act.put, List.setIfInBounds_toArray, List.set_cons_zero, List.set_cons_succ, i64_w, i32_w]
                      rfl
                    refine pure_ (i := 13) (N := some 132) (v := ?_) (a' := ?_) #[true, true, true, true, true, true, true, true, true, true, true, true, true, true, false] rfl rfl (by kernel_rfl) (fun _ _ _ h => h) (Or.inl ⟨by rfl, ?_⟩) ?_ ?_
                    rotate_left
                    · intro w'
                      go_simp
                      with_reducible rfl
                    rotate_left
                    · simp only [Act.put, List.setIfInBounds_toArray, List.set_cons_zero, List.set_cons_succ, i64_w, i32_w]
                      rfl
                    refine last_ (i := 14) (N := some 133) #[true, true, true, true, true, true, true, true, true, true, true, true, true, true, true] rfl rfl (by kernel_rfl) (by decide) (fun K hK => ?_)
                    refine goes_ Try.func10 (by kernel_rfl) rfl #[.pointer (some ⟨gb, 0, none⟩), .int .i64 R1, .int .i64 (100 + (J : Int))] (by rfl) rfl rfl (by simp only [List.map_toArray, List.map_cons, List.map_nil]; rfl) ?_
                    with_reducible refine (CG.out _ hHeld.2.2.out).mono ?_
                    rintro e w6 ⟨rfl, h6⟩
                    refine ⟨_, rfl, ?_⟩
                    refine hK.out _ _ ?_
                    clear hK K
                    refine norm_ (a' := ?_) ?_ ?_
                    rotate_left
                    · show Act.put _ (some 133) _ = _
                      simp only [Act.put, List.setIfInBounds_toArray, List.set_cons_zero, List.set_cons_succ, i64_w, i32_w]
                      rfl
                    refine done_ (by kernel_rfl) ?_
                    have H6 : Aside0 (MRun w5 w6 w.heap.size gb (gots ((ord.take (q + 1)).map (ordS xs)))) := ⟨by rw [HST.out]; exact h6⟩
                    have O6 : Aside0 (MtOk (gots ((ord.take (q + 1)).map (ordS xs))) (q + 1)) := ⟨by rw [HST.out]; exact hOq.out.got _ _⟩
                    clear h6
                    go_wp2_with fail
                    exact ⟨⟨q + 1, by simp, by omega, O6, H6⟩, by simp [intOf]; omega⟩
                  · obtain rfl : q = k := by omega
                    have hta : (ord.take q).map (ordS xs) = ord.map (ordS xs) := by rw [List.take_of_length_le (by rw [HOL.out]; exact Nat.le_refl _)]
                    rw [hta] at hOq hSq
                    obtain ⟨bsa, hA6⟩ := hS.out.frozen ⟨none, HB5.out⟩ (by omega) hSq.out.touch
                    obtain ⟨bsb, hB6⟩ := hSq.out.is
                    have hperm := GtIs.perm (gots_is (l := (List.range q).map (ordS xs)) (fun p hp => by
                      obtain ⟨j, hj, e⟩ := List.mem_map.1 hp
                      rw [← e]
                      exact ordS_ok HW1.out (by rw [← HN.out]; exact List.mem_range.1 hj) (by rw [← HN.out]; exact hn))) (gots_is (l := ord.map (ordS xs)) (fun p hp => by
                      obtain ⟨j, hj, e⟩ := List.mem_map.1 hp
                      rw [← e]
                      exact ordS_ok HW1.out (by rw [← HN.out]; exact List.mem_range.1 (hP.out.mem_iff.1 hj)) (by rw [← HN.out]; exact hn))) (hP.out.symm.map _)
                    generalize gots ((List.range q).map (ordS xs)) = sa at *
                    generalize gots (ord.map (ordS xs)) = sb at *
                    have HA6 := Aside0.mk hA6
                    have HB6 := Aside0.mk hB6
                    obtain ⟨p1, p2, p3⟩ := hperm
                    obtain ⟨BB, hBB⟩ : ∃ B, B = sumS sb.l := ⟨_, rfl⟩
                    obtain ⟨RR, hRR⟩ : ∃ B, B = sb.rate := ⟨_, rfl⟩
                    obtain ⟨FF, hFF⟩ : ∃ B, B = sb.full := ⟨_, rfl⟩
                    rw [← hBB] at p1
                    rw [← hRR] at p2
                    rw [← hFF] at p3
                    have HPP := Aside0.mk (And.intro p1 (And.intro p2 (And.intro p3 (And.intro hBB (And.intro hRR hFF)))))
                    clear hA6 hB6 p1 p2 p3 hBB hRR hFF hta HA4 HB4 HB5
                    go_wp2_with fail
                    refine (mbytes_any HA6.out).mono ?_
                    rintro e v1 ⟨rfl, hv⟩
                    obtain rfl := hv.symm
                    rw [HPP.out.1]
                    go_wp2_with fail
                    refine (mbytes_any HB6.out).mono ?_
                    rintro e v1 ⟨rfl, hv⟩
                    obtain rfl := hv.symm
                    rw [← HPP.out.2.2.2.1]
                    go_wp2_with fail
                    refine (mrate_any HA6.out hOk.out (by omega)).mono ?_
                    rintro e v1 ⟨rfl, hv1⟩
                    rw [HPP.out.2.1]
                    have HV1 := Aside0.mk hv1
                    have HB7 := Aside0.mk (HB6.out.below hv1)
                    have HA7 := Aside0.mk (HA6.out.below hv1)
                    clear hv1
                    go_wp2_with fail
                    refine (mrate_any HB7.out hOq.out (by omega)).mono ?_
                    rintro e v2 ⟨rfl, hv2⟩
                    rw [← HPP.out.2.2.2.2.1]
                    have HV2 := Aside0.mk (HV1.out.trans (hv2.mono HV1.out.size))
                    have HA8 := Aside0.mk (HA7.out.below hv2)
                    have HB8 := Aside0.mk (HB7.out.below hv2)
                    clear hv2
                    go_wp2_with fail
                    refine (mfull_any HA8.out hOk.out).mono ?_
                    rintro e v3 ⟨rfl, hv3⟩
                    rw [HPP.out.2.2.1]
                    have HV3 := Aside0.mk (HV2.out.trans (hv3.mono HV2.out.size))
                    have HB9 := Aside0.mk (HB8.out.below hv3)
                    clear hv3
                    go_wp2_with fail
                    refine (mfull_any HB9.out hOq.out).mono ?_
                    rintro e v4 ⟨rfl, hv4⟩
                    rw [← HPP.out.2.2.2.2.2]
                    have HV4 := Aside0.mk (HV3.out.trans (hv4.mono HV3.out.size))
                    clear hv4
                    go_wp2_with fail
                    refine (wakes_any _).mono ?_
                    rintro e v5 ⟨rfl, hv5⟩
                    have HV5 := Aside0.mk (HV4.out.trans (hv5.mono HV4.out.size))
                    clear hv5
                    go_wp2_with fail
                    go_ret
                    exact ⟨rfl, HBw2.out.trans (HV5.out.mono (by have := hSq.out.touch.size; omega))⟩
set_option maxHeartbeats 4000000 in
set_option maxRecDepth 100000 in
theorem order_long (A1 : Option Addr) (c1 n : Nat) (v : Value) (w : World) (hn : 200 < n) :
    Calls Try.prog 7 #[.slice A1 n c1, v] w fun e w' => e = .returned (.bool true) ∧ Below w.heap.size w w' := by
  have k200 : decide (200 < (n : Int)) = true := decide_eq_true (by omega)
  go_enter Try.func7, Try.ntmps7
  go_wp2_with fail
  refine (mnew_good 1048576 w.heap.size w (by omega) (by omega) (Nat.le_refl _)).mono ?_
  rintro e w1 ⟨ga, rfl, hMa, hga, hB1⟩
  have HB1 := Aside0.mk hB1
  clear hMa hB1
  go_wp2_with fail
  refine (mnew_good 1048576 w1.heap.size w1 (by omega) (by omega) (Nat.le_refl _)).mono ?_
  rintro e w2 ⟨gb, rfl, hMb, hgb, hB2⟩
  have HB2 := Aside0.mk (HB1.out.trans (hB2.mono HB1.out.size))
  clear hMb hB2
  go_wp2_with fail
  refine (wakes_any _).mono ?_
  rintro e w3 ⟨rfl, hB3⟩
  have HB3 := Aside0.mk (HB2.out.trans (hB3.mono HB2.out.size))
  clear hB3
  go_wp2_with fail
  go_ret
  exact ⟨rfl, HB3.out⟩
theorem order_true (A1 : Option Addr) (c1 : Nat) (xs : List Int) (A2 : Option Addr) (c2 : Nat) (tn : List Int) (w : World)
    (hC1 : (Kd.int .u16).C w A1 xs.length xs) (_ : xs.length ≤ c1) (hm1 : xs.length ≤ maxLen) (hw1 : ∀ x ∈ xs, U16 x) (hC2 : (Kd.int .i64).C w A2 tn.length tn) (_ : tn.length ≤ c2) (hm2 : tn.length ≤ maxLen) (hw2 : ∀ x ∈ tn, I64 x) :
    Calls Try.prog 7 #[.slice A1 xs.length c1, .slice A2 tn.length c2] w fun e w' => e = .returned (.bool true) ∧ Below w.heap.size w w' := by
  by_cases h : xs.length ≤ 200
  · exact order_short A1 c1 xs A2 c2 tn w hC1 hw1 hC2 hw2 h hm2
  · exact order_long A1 c1 xs.length _ w (by omega)
end Go.Proofs.Ytpmbacgdbnfeeaa.B
