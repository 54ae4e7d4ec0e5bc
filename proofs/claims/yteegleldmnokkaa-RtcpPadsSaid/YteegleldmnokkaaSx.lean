/-
  A message taken apart: the program's Split is splitP. Walk over the program.
-/
import Derived.Test.YteegleldmnokkaaPx
import Derived.Test.YteegleldmnokkaaSy
import Derived.Test.YteegleldmnokkaaRz
namespace Go.Proofs.Yteegleldmnokkaa.B
open Go.RowKit Go.Proofs.YteegleldmnokkaaW.PrintWords Go.Proofs.YteegleldmnokkaaW.PrintLast Go.Proofs.YteegleldmnokkaaW.PrintMore
set_option linter.unusedVariables false
set_option linter.unusedSimpArgs false
def SplitPost (s : ByteArray) (w : World) (e : Ending) (w' : World) : Prop := ∃ v, e = .returned (.tuple #[v, .int .i64 (splitP s).2]) ∧ RowV w' w.heap.size 40 3 v (splitP s).1.length (partV (splitP s).1) ∧ Below w.heap.size w w'
/-- What is deferred. -/
def splitD (g1 g2 : Nat) : Deferred := { target := .fn (.func 21) #[.pointer (some ⟨g1, 0, none⟩), .pointer (some ⟨g2, 0, none⟩)], args := #[] }
theorem split_load (g1 g2 : Nat) (tm : Array Value) (w : World) (v x : Value) (t1 : tm[2]?.getD undef = .pointer (some ⟨g1, 0, none⟩)) (t2 : tm[3]?.getD undef = .pointer (some ⟨g2, 0, none⟩)) (c1 : w.cell? ⟨g1, 0, none⟩ = some v) (c2 : w.cell? ⟨g2, 0, none⟩ = some x) :
    (results Try.f14 tm).run Try.prog w = .ok (.tuple #[v, x]) w := by
  simp [results, Try.results14, go_sem, t1, t2, c1, c2]
theorem split_fault (s : ByteArray) (w0 w : World) (g1 g2 : Nat) (e : Int) (v x : Value) (tm : Array Value) (h1 : w0.heap.size ≤ g1) (h2 : w0.heap.size ≤ g2) (hne : ¬ g1 = g2) (ha : w.heap[g1]? = some (.cells #[v] 22 (0, 0))) (hb : w.heap[g2]? = some (.cells #[x] 26 (0, 0))) (hw : Below w0.heap.size w0 w)
    (t1 : tm[2]?.getD undef = .pointer (some ⟨g1, 0, none⟩)) (t2 : tm[3]?.getD undef = .pointer (some ⟨g2, 0, none⟩)) (hs : splitP s = ([], e)) :
    Leaves Try.prog Try.f14 tm (SplitPost s w0) [splitD g1 g2] (.panicking [faultV e]) w := by
  have ca := blk_cell ha 0
  have cb := blk_cell hb 0
  have fa := blk_frozen ha 0
  have fb := blk_frozen hb 0
  simp only [List.getElem?_toArray, List.getElem?_cons_zero, List.getElem?_cons_succ] at ca cb
  refine leaves_cons (f := 21) (args := #[.pointer (some ⟨g1, 0, none⟩), .pointer (some ⟨g2, 0, none⟩)]) (by simp) (by simp [go_sem]) ?_
  refine (catch_fault g1 g2 e w _ _ hne ca cb fa fb).mono ?_
  rintro r u' w'' ⟨rfl, rfl, rfl⟩
  have hl1 := World.block_lt_of_cell? w _ ca
  have hl2 := World.block_lt_of_cell? w _ cb
  dsimp only at hl1 hl2
  have hB : Below w0.heap.size w0 ((((w.setCell ⟨g1, 0, none⟩ (.slice none 0 0)).setCell ⟨g2, 0, none⟩ (.int .i64 e)).alloc (.cells #[.int .i64 e] 57)).drew) :=
    (((hw.setCell (p := ⟨g1, 0, none⟩) h1 _).setCell (p := ⟨g2, 0, none⟩) h2 _).alloc (by have := hw.size; simpa [World.setCell] using this) _).drew
  have q1 : ((((w.setCell ⟨g1, 0, none⟩ (.slice none 0 0)).setCell ⟨g2, 0, none⟩ (.int .i64 e)).alloc (.cells #[.int .i64 e] 57)).drew).cell? ⟨g1, 0, none⟩ = some (.slice none 0 0) := by
    simp [go_sem, hl1, ca, hne]
  have q2 : ((((w.setCell ⟨g1, 0, none⟩ (.slice none 0 0)).setCell ⟨g2, 0, none⟩ (.int .i64 e)).alloc (.cells #[.int .i64 e] 57)).drew).cell? ⟨g2, 0, none⟩ = some (.int .i64 e) := by
    simp [go_sem, hl2, cb]
  exact ⟨_, split_load g1 g2 tm _ _ _ t1 t2 q1 q2, _, by rw [hs], by rw [hs]; exact RowV.nil _ _ _ _, hB⟩
theorem split_good (s : ByteArray) (w0 w : World) (g1 g2 : Nat) (l : List P3) (v : Value) (tm : Array Value) (ha : w.heap[g1]? = some (.cells #[v] 22 (0, 0))) (hb : w.heap[g2]? = some (.cells #[.int .i64 0] 26 (0, 0))) (hw : Below w0.heap.size w0 w) (hr : RowV w w0.heap.size 40 3 v l.length (partV l))
    (t1 : tm[2]?.getD undef = .pointer (some ⟨g1, 0, none⟩)) (t2 : tm[3]?.getD undef = .pointer (some ⟨g2, 0, none⟩)) (hs : splitP s = (l, 0)) :
    Leaves Try.prog Try.f14 tm (SplitPost s w0) [splitD g1 g2] .returning w := by
  have ca := blk_cell ha 0
  have cb := blk_cell hb 0
  simp only [List.getElem?_toArray, List.getElem?_cons_zero, List.getElem?_cons_succ] at ca cb
  refine leaves_cons (f := 21) (args := #[.pointer (some ⟨g1, 0, none⟩), .pointer (some ⟨g2, 0, none⟩)]) (by simp) (by simp [go_sem]) ?_
  refine (catch_idle ⟨g1, 0, none⟩ ⟨g2, 0, none⟩ w).mono ?_
  rintro r u' w'' ⟨rfl, rfl, rfl⟩
  exact ⟨_, split_load g1 g2 tm _ _ _ t1 t2 ca cb, v, by rw [hs], by rw [hs]; exact hr, hw⟩
set_option maxHeartbeats 4000000 in
theorem split_long (s : ByteArray) (w : World) (h : 65536 < s.size) (h2 : s.size ≤ 1000000) : Calls Try.prog 14 #[.string s] w (SplitPost s w) := by
  have hmf : ∀ (fn : Fn) (first cap : Array Value) (w : World), (Instr.makeFunc fn first cap).run Try.prog w = .ok (.func fn first cap) w := fun _ _ _ _ => rfl
  have d1 : decide ((s.size : Int) ≤ 65536) = false := decide_eq_false (by omega)
  go_enter_defers Try.func14, Try.ntmps14
  go_wp2_with fail
  refine wp_scope_goto 0 (fun _ _ => False) (fun _ _ => 0) rfl ?_ ?_
  · rintro a w hh
    exact hh.elim
  · intro hrest
    clear hrest
    go_wp2_with fail
    refine (want_no 2 _).mono ?_
    rintro e w8 ⟨rfl, hw8⟩
    obtain rfl := hw8.symm
    go_wp2_with fail
    (try simp only [Exit.jump])
    refine split_fault s w _ w.heap.size (w.heap.size + 1) 2 (.slice none 0 0) (.int .i64 0) _ (Nat.le_refl _) (by omega) (by omega) ?_ ?_ (((Below.refl _ _).alloc (Nat.le_refl _) _).alloc (by simp) _) rfl rfl (splitP_long h)
    · exact (Below.heap_alloc _ _ _ (by simp)).trans (blk_new w _)
    · have h := blk_new (w.alloc (.cells #[.slice none 0 0] 22)) (.cells #[.int .i64 0] 26)
      simpa using h
theorem str_ne_emptyN {s : ByteArray} (h : ¬ s.size = 0) : ¬ s = ({ data := #[] } : ByteArray) := fun e => h (by rw [e]; rfl)
theorem str_empty_ (s : ByteArray) : s.toList.isEmpty = decide (s.size = 0) := by
  rw [ByteArray.toList_eq, Bool.eq_iff_iff]
  simp only [List.isEmpty_iff, decide_eq_true_eq]
  exact ⟨fun h => (by have := congrArg List.length h; simpa using this), fun h => List.eq_nil_of_length_eq_zero (by simpa using h)⟩
theorem size_emptyS {s : ByteArray} (h : s.size = 0) : s = ({ data := #[] } : ByteArray) := by
  obtain ⟨d⟩ := s
  have : d = #[] := Array.eq_empty_of_size_eq_zero h
  rw [this]
set_option maxHeartbeats 4000000 in
theorem split_none (w : World) : Calls Try.prog 14 #[.string { data := #[] }] w (SplitPost { data := #[] } w) := by
  have hmf : ∀ (fn : Fn) (first cap : Array Value) (w : World), (Instr.makeFunc fn first cap).run Try.prog w = .ok (.func fn first cap) w := fun _ _ _ _ => rfl
  go_enter_defers Try.func14, Try.ntmps14
  go_wp2_with fail
  refine wp_scope_goto 0 (fun _ _ => False) (fun _ _ => 0) rfl ?_ ?_
  · rintro a w hh
    exact hh.elim
  · intro hrest
    clear hrest
    go_wp2_with fail
    refine (want_yes 2 _).mono ?_
    rintro e w8 ⟨rfl, hw8⟩
    obtain rfl := hw8.symm
    go_wp2_with fail
    refine (want_no 60 _).mono ?_
    rintro e w8 ⟨rfl, hw8⟩
    obtain rfl := hw8.symm
    go_wp2_with fail
    (try simp only [Exit.jump])
    refine split_fault _ w _ w.heap.size (w.heap.size + 1) 60 (.slice none 0 0) (.int .i64 0) _ (Nat.le_refl _) (by omega) (by omega) ?_ ?_ (((Below.refl _ _).alloc (Nat.le_refl _) _).alloc (by simp) _) rfl rfl (splitP_none rfl)
    · exact (Below.heap_alloc _ _ _ (by simp)).trans (blk_new w _)
    · have h := blk_new (w.alloc (.cells #[.slice none 0 0] 22)) (.cells #[.int .i64 0] 26)
      simpa using h
def splitF (g1 g2 : Nat) (r : ByteArray) (q : Nat → Value) : Act := { tmps := #[.string r, q 1, .pointer (some ⟨g1, 0, none⟩), .pointer (some ⟨g2, 0, none⟩), q 4, q 5, q 6, q 7, q 8, q 9, q 10, q 11, q 12, q 13, q 14, q 15, q 16, q 17, q 18, q 19, q 20, q 21, q 22, q 23, q 24, q 25, q 26, q 27, q 28], defers := [splitD g1 g2] }
/-- At the label: the parts l are taken off, the text r is left. -/
def SplitJ (s : ByteArray) (w0 : World) (g1 g2 : Nat) (a : Act) (w : World) : Prop := ∃ (r : ByteArray) (l : List P3) (v : Value) (q : Nat → Value), a = splitF g1 g2 r q ∧ Aside0 (0 < r.size ∧ r.size + 4 * l.length ≤ 65536) ∧ Aside0 (w.heap[g1]? = some (.cells #[v] 22 (0, 0))) ∧ Aside0 (w.heap[g2]? = some (.cells #[.int .i64 0] 26 (0, 0))) ∧ Aside0 (Below w0.heap.size w0 w) ∧ Aside0 (RowV w w0.heap.size 40 3 v l.length (partV l)) ∧ Aside0 (Behind s l r)
def splitM (a : Act) : Nat := match a.tmps[0]? with
  | some (Value.string r) => r.size
  | _ => 0
theorem SplitJ.mk {s : ByteArray} {w0 : World} {g1 g2 : Nat} {a : Act} {w : World} (r : ByteArray) (l : List P3) (v : Value) (h : a = splitF g1 g2 r (fun i => a.tmps.getD i undef)) (h1 : 0 < r.size ∧ r.size + 4 * l.length ≤ 65536) (h2 : w.heap[g1]? = some (.cells #[v] 22 (0, 0))) (h3 : w.heap[g2]? = some (.cells #[.int .i64 0] 26 (0, 0)))
    (h4 : Below w0.heap.size w0 w) (h5 : RowV w w0.heap.size 40 3 v l.length (partV l)) (h6 : Behind s l r) : SplitJ s w0 g1 g2 a w := ⟨r, l, v, _, h, ⟨h1⟩, ⟨h2⟩, ⟨h3⟩, ⟨h4⟩, ⟨h5⟩, ⟨h6⟩⟩
set_option maxHeartbeats 4000000 in
set_option maxRecDepth 100000 in
theorem split_some (s : ByteArray) (w : World) (h0 : ¬ s.size = 0) (h1 : s.size ≤ 65536) : Calls Try.prog 14 #[.string s] w (SplitPost s w) := by
  have hmf : ∀ (fn : Fn) (first cap : Array Value) (w : World), (Instr.makeFunc fn first cap).run Try.prog w = .ok (.func fn first cap) w := fun _ _ _ _ => rfl
  have d1 : decide ((s.size : Int) ≤ 65536) = true := decide_eq_true (by omega)
  have d2 : s.toList.isEmpty = false := by rw [str_empty_]; exact decide_eq_false h0
  go_enter_defers Try.func14, Try.ntmps14
  go_wp2_with fail
  refine wp_scope_goto 0 (SplitJ s w w.heap.size (w.heap.size + 1)) (fun a _ => splitM a) rfl ?_ ?_
  · rintro a w1 ⟨r, l, v, q, rfl, ⟨hr0, hr1⟩, hg1, hg2, hB, hR, hH⟩
    obtain ⟨g1, hgg1⟩ : ∃ g, g = w.heap.size := ⟨_, rfl⟩
    obtain ⟨g2, hgg2⟩ : ∃ g, g = w.heap.size + 1 := ⟨_, rfl⟩
    rw [← hgg2, ← hgg1]
    have HG := Aside0.mk (And.intro hgg1 hgg2)
    rw [← hgg2] at hg2
    rw [← hgg1] at hg1
    clear hgg1 hgg2
    unfold splitF splitD
    go_wp2_with fail
    refine (part_any r w1 hr0 (by omega)).mono ?_
    rintro e w2 ⟨⟨hE, rfl⟩ | ⟨hE, rfl⟩, hB2⟩
    · have k1 := (hB2.block _ (blk_lt hg1.out)).trans hg1.out
      have c1 := blk_cell k1 0
      simp only [List.getElem?_toArray, List.getElem?_cons_zero, List.getElem?_cons_succ] at c1
      have f1 := blk_frozen k1 0
      have HB2 := Aside0.mk (hB.out.trans (hB2.mono hB.out.size))
      have HR2 := Aside0.mk (hR.out.below hB2)
      have K2 := Aside0.mk ((hB2.block _ (blk_lt hg2.out)).trans hg2.out)
      have K1 := Aside0.mk k1
      have HE := Aside0.mk hE
      obtain ⟨hp1, hp2⟩ := partErr_size hE
      have hp4 := partSize_ge r
      obtain ⟨A, c, rfl, hnc, hcm⟩ := hR.out.form
      obtain ⟨n, hn⟩ : ∃ n, n = l.length := ⟨_, rfl⟩
      obtain ⟨P, hP⟩ : ∃ P, P = partSize r := ⟨_, rfl⟩
      obtain ⟨T, hT⟩ : ∃ T, T = r.extract P r.size := ⟨_, rfl⟩
      have hTs : T.size = r.size - P := by rw [hT]; simp
      obtain ⟨X, hX⟩ : ∃ X, X = byteN r 0 % 32 := ⟨_, rfl⟩
      obtain ⟨Y, hY⟩ : ∃ Y, Y = byteN r 1 := ⟨_, rfl⟩
      obtain ⟨Z, hZ⟩ : ∃ Z, Z = partBody r := ⟨_, rfl⟩
      rw [← hn] at hr1 hnc c1 HR2 K1
      rw [← hP] at hp1 hp4
      rw [← hX, ← hY, ← hZ, ← hP]
      have HP := Aside0.mk hP
      have HT := Aside0.mk hT
      have HN := Aside0.mk hn
      have HXYZ := Aside0.mk (And.intro hX (And.intro hY hZ))
      have i1 : (P : Int) ≤ (r.size : Int) := by omega
      have i0 : (0 : Int) ≤ (P : Int) := by omega
      have hl1 := blk_lt k1
      clear hP hT hn hX hY hZ hE hB2 hB hR hg1 hg2 k1 hp2
      have HR3 := Aside0.mk ((HR2.out.alloc (.cells #[.int .i64 (X : Int), .int .i64 (Y : Int), .string Z] 40)).alloc (.cells #[.int .i64 (X : Int), .int .i64 (Y : Int), .string Z] 40))
      have HB3 := Aside0.mk ((HB2.out.alloc (o := .cells #[.int .i64 (X : Int), .int .i64 (Y : Int), .string Z] 40) HB2.out.size).alloc (o := .cells #[.int .i64 (X : Int), .int .i64 (Y : Int), .string Z] 40) (by have := HB2.out.size; simp; omega))
      have K13 := Aside0.mk ((Below.heap_alloc _ (.cells #[.int .i64 (X : Int), .int .i64 (Y : Int), .string Z] 40) _ (blk_lt ((Below.heap_alloc w2 (.cells #[.int .i64 (X : Int), .int .i64 (Y : Int), .string Z] 40) g1 hl1).trans K1.out))).trans ((Below.heap_alloc w2 (.cells #[.int .i64 (X : Int), .int .i64 (Y : Int), .string Z] 40) g1 hl1).trans K1.out))
      have hl2 := blk_lt K2.out
      have K23 := Aside0.mk ((Below.heap_alloc _ (.cells #[.int .i64 (X : Int), .int .i64 (Y : Int), .string Z] 40) _ (blk_lt ((Below.heap_alloc w2 (.cells #[.int .i64 (X : Int), .int .i64 (Y : Int), .string Z] 40) g2 hl2).trans K2.out))).trans ((Below.heap_alloc w2 (.cells #[.int .i64 (X : Int), .int .i64 (Y : Int), .string Z] 40) g2 hl2).trans K2.out))
      have HNX : Aside0 (∀ j u, ([.int .i64 (X : Int), .int .i64 (Y : Int), .string Z] : List Value)[j]? = some u → ((w2.alloc (.cells #[.int .i64 (X : Int), .int .i64 (Y : Int), .string Z] 40)).alloc (.cells #[.int .i64 (X : Int), .int .i64 (Y : Int), .string Z] 40)).cell? ((⟨w2.heap.size + 1, 0, none⟩ : Addr).add j) = some u) := ⟨by
        have h := new_news (w2.alloc (.cells #[.int .i64 (X : Int), .int .i64 (Y : Int), .string Z] 40)) [.int .i64 (X : Int), .int .i64 (Y : Int), .string Z] 40
        simpa using h⟩
      have HBX : Aside0 (w.heap.size ≤ ((w2.alloc (.cells #[.int .i64 (X : Int), .int .i64 (Y : Int), .string Z] 40)).alloc (.cells #[.int .i64 (X : Int), .int .i64 (Y : Int), .string Z] 40)).heap.size) := ⟨HB3.out.size⟩
      clear hl2
      have hgn : ¬ g1 = g2 := by have := HG.out; omega
      have hgn' : ¬ g2 = g1 := fun e => hgn e.symm
      have hem : (r.extract P r.size).toList.isEmpty = decide (r.size ≤ P) := by
        rw [str_empty_]
        congr 1
        rw [ByteArray.size_extract]
        exact propext (by omega)
      by_cases hz : r.size ≤ P
      · have hem2 : (r.extract P r.size).toList.isEmpty = true := by rw [hem]; exact decide_eq_true hz
        clear hem
        go_wp2_with (at_builtin; go_loud (refine row_append (w := (w2.alloc (.cells #[.int .i64 (X : Int), .int .i64 (Y : Int), .string Z] 40)).alloc (.cells #[.int .i64 (X : Int), .int .i64 (Y : Int), .string Z] 40)) rfl (.tmp 19) (.tmp 21) 22 rfl 40 Try.t40 (.agg #[.int .i64 0, .int .i64 0, .string { data := #[] }]) 3 32 Try.underlying22 (by kernel_rfl) rfl rfl rfl (by decide) (by decide) w.heap.size (.slice A n c) n (partV l) (by rfl) HR3.out ⟨w2.heap.size + 1, 0, none⟩ 1 1 [.int .i64 (X : Int), .int .i64 (Y : Int), .string Z] (by rfl) rfl HNX.out (by simp [Value.oneCell']) (by simp only [maxLen]; omega) (by omega) HBX.out ?_); intro v1 w6 hR6 hG6 hO6 hF6; obtain ⟨g6, o6, c6, rfl, hb6, hn6, hc6, hx6⟩ := hR6.some_ (by omega); have k16 := blk_grown K13.out hG6 (fun e => HR3.out.ne K13.out (by decide) e.symm); have k26 := blk_grown K23.out hG6 (fun e => HR3.out.ne K23.out (by decide) e.symm); have HB6 := Aside0.mk (below_new HB3.out hG6 (fun k hk => (HR3.out.lt hk).2.1)); have HR6 := Aside0.mk hR6; have u1 := blk_cell k16 0; have u1f := blk_frozen k16 0; have u2 := blk_cell k26 0; have u2f := blk_frozen k26 0; simp only [List.getElem?_toArray, List.getElem?_cons_zero, List.getElem?_cons_succ] at u1 u2; have q61 := blk_lt k16; have q62 := blk_lt k26; have HK16 := Aside0.mk k16; have HK26 := Aside0.mk k26; clear hx6 hR6 hG6 hO6 hF6 c1 f1 k16 k26)
        (try simp only [Exit.jump])
        have z1 := blk_set (blk_set HK16.out 0 (.slice (some ⟨g6, o6, none⟩) (n + 1) c6)) 0 (.slice (some ⟨g6, o6, none⟩) (n + 1) c6)
        have Z1 := (Below.heap_setCell _ (⟨g2, 0, none⟩ : Addr) (.int .i64 0) g1 hgn).trans z1
        have z2 := (Below.heap_setCell _ (⟨g1, 0, none⟩ : Addr) (.slice (some ⟨g6, o6, none⟩) (n + 1) c6) g2 hgn').trans ((Below.heap_setCell w6 (⟨g1, 0, none⟩ : Addr) (.slice (some ⟨g6, o6, none⟩) (n + 1) c6) g2 hgn').trans HK26.out)
        have Z2 := blk_set z2 0 (.int .i64 0)
        have hN : n + 1 = (l ++ [partOf r]).length := by rw [List.length_append, HN.out]; rfl
        have hV : partV l ++ [Value.int IntKind.i64 (X : Int), Value.int IntKind.i64 (Y : Int), Value.string Z] = partV (l ++ [partOf r]) := by
          rw [partV_snoc, HXYZ.out.1, HXYZ.out.2.1, HXYZ.out.2.2]
          rfl
        have hR := HR6.out
        rw [hV] at hR
        have e1 := hR.ne HK16.out (by decide)
        have e2 := hR.ne HK26.out (by decide)
        refine split_good s w _ g1 g2 (l ++ [partOf r]) (.slice (some ⟨g6, o6, none⟩) (n + 1) c6) _ ?_ ?_ ?_ ?_ rfl rfl ?_
        · refine Z1.trans ?_
          simp
        · refine Z2.trans ?_
          simp
        · exact ((HB6.out.setCell (p := ⟨g1, 0, none⟩) (show w.heap.size ≤ g1 by have := HG.out; omega) _).setCell (p := ⟨g1, 0, none⟩) (show w.heap.size ≤ g1 by have := HG.out; omega) _).setCell (p := ⟨g2, 0, none⟩) (show w.heap.size ≤ g2 by have := HG.out; omega) _
        · rw [← hN]
          exact ((hR.setCell (p := ⟨g1, 0, none⟩) _ e1).setCell (p := ⟨g1, 0, none⟩) _ e1).setCell (p := ⟨g2, 0, none⟩) _ e2
        · refine splitP_ok (by omega) (by omega) ((hH.out.next (by omega) HE.out).done ?_)
          rw [restOf_size, ← HP.out]
          omega
      · have hem2 : (r.extract P r.size).toList.isEmpty = false := by rw [hem]; exact decide_eq_false hz
        clear hem
        go_wp2_with (at_builtin; go_loud (refine row_append (w := (w2.alloc (.cells #[.int .i64 (X : Int), .int .i64 (Y : Int), .string Z] 40)).alloc (.cells #[.int .i64 (X : Int), .int .i64 (Y : Int), .string Z] 40)) rfl (.tmp 19) (.tmp 21) 22 rfl 40 Try.t40 (.agg #[.int .i64 0, .int .i64 0, .string { data := #[] }]) 3 32 Try.underlying22 (by kernel_rfl) rfl rfl rfl (by decide) (by decide) w.heap.size (.slice A n c) n (partV l) (by rfl) HR3.out ⟨w2.heap.size + 1, 0, none⟩ 1 1 [.int .i64 (X : Int), .int .i64 (Y : Int), .string Z] (by rfl) rfl HNX.out (by simp [Value.oneCell']) (by simp only [maxLen]; omega) (by omega) HBX.out ?_); intro v1 w6 hR6 hG6 hO6 hF6; obtain ⟨g6, o6, c6, rfl, hb6, hn6, hc6, hx6⟩ := hR6.some_ (by omega); have k16 := blk_grown K13.out hG6 (fun e => HR3.out.ne K13.out (by decide) e.symm); have k26 := blk_grown K23.out hG6 (fun e => HR3.out.ne K23.out (by decide) e.symm); have HB6 := Aside0.mk (below_new HB3.out hG6 (fun k hk => (HR3.out.lt hk).2.1)); have HR6 := Aside0.mk hR6; have u1 := blk_cell k16 0; have u1f := blk_frozen k16 0; have u2 := blk_cell k26 0; have u2f := blk_frozen k26 0; simp only [List.getElem?_toArray, List.getElem?_cons_zero, List.getElem?_cons_succ] at u1 u2; have q61 := blk_lt k16; have q62 := blk_lt k26; have HK16 := Aside0.mk k16; have HK26 := Aside0.mk k26; clear hx6 hR6 hG6 hO6 hF6 c1 f1 k16 k26)
        go_step3
        have z1 := blk_set HK16.out 0 (.slice (some ⟨g6, o6, none⟩) (n + 1) c6)
        have z2 := (Below.heap_setCell w6 (⟨g1, 0, none⟩ : Addr) (.slice (some ⟨g6, o6, none⟩) (n + 1) c6) g2 hgn').trans HK26.out
        have hN : n + 1 = (l ++ [partOf r]).length := by rw [List.length_append, HN.out]; rfl
        have hV : partV l ++ [Value.int IntKind.i64 (X : Int), Value.int IntKind.i64 (Y : Int), Value.string Z] = partV (l ++ [partOf r]) := by
          rw [partV_snoc, HXYZ.out.1, HXYZ.out.2.1, HXYZ.out.2.2]
          rfl
        have hR := HR6.out
        rw [hV] at hR
        have e1 := hR.ne HK16.out (by decide)
        have hz1 : (r.extract P r.size).size = r.size - P := by rw [ByteArray.size_extract]; omega
        show (0 : Nat) = 0 ∧ _ ∧ _
        refine ⟨rfl, SplitJ.mk (r.extract P r.size) (l ++ [partOf r]) (.slice (some ⟨g6, o6, none⟩) (n + 1) c6) rfl ⟨?_, ?_⟩ ?_ z2 ?_ ?_ ?_, ?_⟩
        · omega
        · omega
        · refine z1.trans ?_
          simp
        · exact HB6.out.setCell (p := ⟨g1, 0, none⟩) (show w.heap.size ≤ g1 by have := HG.out; omega) _
        · rw [← hN]
          exact hR.setCell (p := ⟨g1, 0, none⟩) _ e1
        · have h := hH.out.next (by omega) HE.out
          rw [restOf, ← HP.out] at h
          exact h
        · show (r.extract P r.size).size < r.size
          omega
    · go_wp2_with fail
      (try simp only [Exit.jump])
      refine split_fault s w _ g1 g2 _ v (.int .i64 0) _ ?_ ?_ ?_ ((hB2.block _ (blk_lt hg1.out)).trans hg1.out) ((hB2.block _ (blk_lt hg2.out)).trans hg2.out) (hB.out.trans (hB2.mono hB.out.size)) rfl rfl (splitP_bad (by omega) (by omega) (hH.out.bad (by omega) hE))
      all_goals (have := HG.out; omega)
  · intro hrest
    go_wp2_with fail
    refine (want_yes 2 _).mono ?_
    rintro e w8 ⟨rfl, hw8⟩
    obtain rfl := hw8.symm
    go_wp2_with fail
    refine (want_yes 60 _).mono ?_
    rintro e w8 ⟨rfl, hw8⟩
    obtain rfl := hw8.symm
    dsimp only
    rename_i K hK
    refine hK _ _ ?_
    refine wpList_nil ?_
    rename_i K2 hK2
    refine hK2 _ _ ?_
    go_wp2_with fail
    go_step3
    rename_i K3 hK3
    refine hK3 _ _ (hrest.out _ _ (SplitJ.mk s [] (.slice none 0 0) rfl ⟨by omega, by simp; omega⟩ ?_ ?_ (((Below.refl _ _).alloc (Nat.le_refl _) _).alloc (by simp) _) (RowV.nil _ _ _ _) (Behind.start s)))
    · exact (Below.heap_alloc _ _ _ (by simp)).trans (blk_new w _)
    · have h := blk_new (w.alloc (.cells #[.slice none 0 0] 22)) (.cells #[.int .i64 0] 26)
      simpa using h
theorem split_any (s : ByteArray) (w : World) (h : s.size ≤ 1000000) : Calls Try.prog 14 #[.string s] w (SplitPost s w) := by
  by_cases h1 : 65536 < s.size
  · exact split_long s w h1 h
  · by_cases h2 : s.size = 0
    · rw [size_emptyS h2]
      exact split_none w
    · exact split_some s w h2 (by omega)
end Go.Proofs.Yteegleldmnokkaa.B
