/-
  A message taken apart, as the reference does it. Walk over the statements' own reference.
-/
import Derived.Test.YteegleldmnokkaaPr
namespace Go.Proofs.Yteegleldmnokkaa.B
open Go.RowKit Go.Proofs.YteegleldmnokkaaW.PrintWords Go.Proofs.YteegleldmnokkaaW.PrintLast Go.Proofs.YteegleldmnokkaaW.PrintMore
set_option linter.unusedVariables false
set_option linter.unusedSimpArgs false
theorem byteN_rest (s : ByteArray) (a i : Nat) : byteN (s.extract a s.size) i = byteN s (a + i) := by
  unfold byteN bt
  simp only [Int.toNat_natCast, ByteArray.size_extract]
  by_cases h : a + i < s.size
  · rw [dif_pos (by omega), dif_pos h]
    simp [ByteArray.getElem_extract]
  · rw [dif_neg (by omega), dif_neg h]
theorem rest_extract (s : ByteArray) (a c d : Nat) (h : a + d ≤ s.size) : (s.extract a s.size).extract c d = s.extract (a + c) (a + d) := by
  rw [ByteArray.extract_extract, Nat.min_eq_left h]
theorem four_words (x y : Int) (hx : 0 ≤ x ∧ x < 256) (hy : 0 ≤ y ∧ y < 256) : wrap64 (4 * wrap64 (wrap64 (wrap64 x * 256) + wrap64 y)) = 4 * (x * 256 + y) := by
  have e1 : wrap64 x = x := by unfold wrap64; omega
  have e2 : wrap64 y = y := by unfold wrap64; omega
  have e3 : wrap64 (x * 256) = x * 256 := by unfold wrap64; omega
  have e4 : wrap64 (x * 256 + y) = x * 256 + y := by unfold wrap64; omega
  rw [e1, e2, e3, e4]
  unfold wrap64
  omega
theorem and_pad (V : Nat) (h : V < 256) : bits BinOp.and IntKind.u8 ((V : Int) / 32) 1 = ((V / 32 % 2 : Nat) : Int) := by
  have key : ∀ v < 8, bits BinOp.and IntKind.u8 ((v : Nat) : Int) 1 = ((v % 2 : Nat) : Int) := by decide
  have := key (V / 32) (by omega)
  rw [← this]
  rfl
theorem partErr_is {r : ByteArray} {V0 V1 N : Nat} (h0 : byteN r 0 = V0) (h1 : byteN r 1 = V1) (hp : partSize r = 4 + N) (hs : 4 + N ≤ r.size) :
    partErr r = if V0 / 64 % 4 ≠ 2 then 70 else if V1 < 192 ∨ 223 < V1 then 81 else if V0 / 32 % 2 = 1 ∧ ¬ (4 + N = r.size ∧ 4 ≤ padN r ∧ padN r % 4 = 0 ∧ padN r ≤ N) then 91 else 0 := by
  unfold partErr
  rw [if_neg (by omega), hp, if_neg (by omega), h0, h1, Nat.add_sub_cancel_left]
theorem padN_is {s r : ByteArray} {a N : Nat} (hr : r = s.extract a s.size) (hp : partSize r = 4 + N) (h : 0 < N) : padN r = byteN s (a + 4 + (N - 1)) := by
  unfold padN
  rw [hp, if_pos (by omega), hr, byteN_rest]
  congr 1
  omega
theorem padN_zero {r : ByteArray} (hp : partSize r = 4) : padN r = 0 := by
  unfold padN
  rw [hp, if_neg (by omega)]
theorem bt_extract (s : ByteArray) (a b i : Nat) (h : a + i < b) (hb : b ≤ s.size) : bt (s.extract a b) (i : Int) = (byteN s (a + i) : Int) := by
  rw [← byteN_bt s (a + i)]
  unfold bt
  simp only [Int.toNat_natCast, ByteArray.size_extract]
  rw [dif_pos (by omega), dif_pos (by omega)]
  simp [ByteArray.getElem_extract]
def QJ (w0 : World) (s : ByteArray) (v4 v5 : Value) (wr : World) : Prop := ∃ (a : Nat) (l : List P3), v5 = .int .i64 a ∧ Aside0 (RowV wr w0.heap.size 40 3 v4 l.length (partV l)) ∧ a ≤ s.size ∧ Aside0 (4 * l.length ≤ a) ∧ Aside0 (Behind s l (s.extract a s.size)) ∧ Aside0 (Below w0.heap.size w0 wr)
set_option maxHeartbeats 4000000 in
set_option maxRecDepth 100000 in
theorem rsplit_some (s : ByteArray) (w : World) (h0 : ¬ s.size = 0) (h1 : s.size ≤ 65536) : Calls Try.prog 15 #[.string s] w (SplitPost s w) := by
  have d1 : decide (65536 < (s.size : Int)) = false := decide_eq_false (by omega)
  have d2 : s.toList.isEmpty = false := by rw [str_empty_]; exact decide_eq_false h0
  go_enter Try.func15, Try.ntmps15
  go_wp2_with fail
  go_loopw [4, 5, 6, 7, 8, 9] (fun v4 v5 _ _ _ _ wr => QJ w s v4 v5 wr) (fun _ v _ _ _ _ _ => s.size - (intOf v).toNat)
  case atStart => exact ⟨0, [], rfl, ⟨RowV.nil _ _ _ _⟩, by omega, ⟨by simp⟩, ⟨by simpa using Behind.start s⟩, ⟨Below.refl _ _⟩⟩
  case round =>
    obtain ⟨a, l, rfl, hR, ha, hal, hBe, hB⟩ := hrel
    by_cases hlt : a < s.size
    · obtain ⟨r, hr⟩ : ∃ r, r = s.extract a s.size := ⟨_, rfl⟩
      have hrs : r.size = s.size - a := by rw [hr]; simp
      have e0 : byteN r 0 = byteN s a := by rw [hr, byteN_rest]; rfl
      have e1 : byteN r 1 = byteN s (a + 1) := by rw [hr, byteN_rest]
      have e2 : byteN r 2 = byteN s (a + 2) := by rw [hr, byteN_rest]
      have e3 : byteN r 3 = byteN s (a + 3) := by rw [hr, byteN_rest]
      rw [← hr] at hBe
      have q1 : decide ((a : Int) < (s.size : Int)) = true := decide_eq_true (by omega)
      by_cases z1 : s.size - a < 4
      · have q2 : decide ((s.size : Int) - (a : Int) < 4) = true := decide_eq_true (by omega)
        have HE := Aside0.mk (splitP_bad h1 h0 (hBe.out.bad (by omega) (show partErr r ≠ 0 by unfold partErr; rw [if_pos (by omega)]; decide)))
        have HE2 := Aside0.mk (show partErr r = 60 by unfold partErr; rw [if_pos (by omega)])
        go_wp2_with fail
        go_ret2
        exact ⟨_, by rw [HE.out, HE2.out]; rfl, by rw [HE.out]; exact RowV.nil _ _ _ _, hB.out⟩
      · have q2 : decide ((s.size : Int) - (a : Int) < 4) = false := decide_eq_false (by omega)
        have hb2 := bt_at s ((a : Int) + 2)
        have hb3 := bt_at s ((a : Int) + 3)
        have i2 : (0 : Int) ≤ (a : Int) + 2 := by omega
        have i3 : (0 : Int) ≤ (a : Int) + 3 := by omega
        have j2 : (a : Int) + 2 < (s.size : Int) := by omega
        have j3 : (a : Int) + 3 < (s.size : Int) := by omega
        go_wp2_with fail
        go_quiet (fail)
        have hV0 := byteN_bt s a
        have hV1 := byteN_bt s (a + 1)
        have hV2 := byteN_bt s (a + 2)
        have hV3 := byteN_bt s (a + 3)
        have l0 := byteN_lt s a
        have l1 := byteN_lt s (a + 1)
        have l2 := byteN_lt s (a + 2)
        have l3 := byteN_lt s (a + 3)
        obtain ⟨V0, hv0⟩ : ∃ V, V = byteN s a := ⟨_, rfl⟩
        obtain ⟨V1, hv1⟩ : ∃ V, V = byteN s (a + 1) := ⟨_, rfl⟩
        obtain ⟨V2, hv2⟩ : ∃ V, V = byteN s (a + 2) := ⟨_, rfl⟩
        obtain ⟨V3, hv3⟩ : ∃ V, V = byteN s (a + 3) := ⟨_, rfl⟩
        rw [← hv0] at hV0 l0 e0
        rw [← hv1] at hV1 l1 e1
        rw [← hv2] at hV2 l2 e2
        rw [← hv3] at hV3 l3 e3
        obtain ⟨N, hN⟩ : ∃ N, N = 4 * (V2 * 256 + V3) := ⟨_, rfl⟩
        have eN : wrap64 (4 * wrap64 (wrap64 (wrap64 (bt s ((a : Int) + 2)) * 256) + wrap64 (bt s ((a : Int) + 3)))) = (N : Int) := by
          rw [four_words _ _ (by have := bt_range s ((a : Int) + 2); omega) (by have := bt_range s ((a : Int) + 3); omega)]
          rw [show (a : Int) + 2 = ((a + 2 : Nat) : Int) by omega, show (a : Int) + 3 = ((a + 3 : Nat) : Int) by omega, hV2, hV3, hN]
          omega
        rw [eN]
        have hps : partSize r = 4 + N := by unfold partSize; rw [e2, e3, hN]
        have hNl : N ≤ 262140 := by omega
        clear eN hb2 hb3 hN hv2 hv3 hV2 hV3 l2 l3 e2 e3 V2 V3 i2 i3 j2 j3
        by_cases z2 : s.size - a < 4 + N
        · have q3 : decide ((s.size : Int) - (a : Int) - 4 < (N : Int)) = true := decide_eq_true (by omega)
          have hp : partErr r = 60 := by unfold partErr; rw [if_neg (by omega), if_pos (by omega)]
          have HE := Aside0.mk (splitP_bad h1 h0 (hBe.out.bad (by omega) (by rw [hp]; decide)))
          have HE2 := Aside0.mk hp
          clear hp
          go_wp2_with fail
          go_ret2
          exact ⟨_, by rw [HE.out, HE2.out]; rfl, by rw [HE.out]; exact RowV.nil _ _ _ _, pw_below_drewN hB.out nq⟩
        · have q3 : decide ((s.size : Int) - (a : Int) - 4 < (N : Int)) = false := decide_eq_false (by omega)
          have hb0 : ∀ h : a < s.size, ((s[a]'h).toNat : Int) = (V0 : Int) := fun h => by
            have := bt_at s (a : Int) (by simpa using h)
            rw [hV0] at this
            simpa using this
          have hb1 : ∀ h : a + 1 < s.size, ((s[a + 1]'h).toNat : Int) = (V1 : Int) := fun h => by
            have := bt_at s ((a + 1 : Nat) : Int) (by simpa using h)
            rw [hV1] at this
            simpa using this
          have n0 : ((wr.drewN (nq + 1)).alloc (.cells #[.int .i64 0, .int .i64 0, .string { data := #[] }] 40)).cell? ⟨wr.heap.size, 0, none⟩ = some (.int .i64 0) := (World.cell?_alloc_mark (wr.drewN (nq + 1)) _ _ (0, 0) 0).trans rfl
          have f0 : ((wr.drewN (nq + 1)).alloc (.cells #[.int .i64 0, .int .i64 0, .string { data := #[] }] 40)).frozen? ⟨wr.heap.size, 0, none⟩ = false := (World.frozen?_alloc_mark (wr.drewN (nq + 1)) _ _ 0 0 0).trans rfl
          have n1 : ((wr.drewN (nq + 1)).alloc (.cells #[.int .i64 0, .int .i64 0, .string { data := #[] }] 40)).cell? ⟨wr.heap.size, 1, none⟩ = some (.int .i64 0) := (World.cell?_alloc_mark (wr.drewN (nq + 1)) _ _ (0, 0) 1).trans rfl
          have f1 : ((wr.drewN (nq + 1)).alloc (.cells #[.int .i64 0, .int .i64 0, .string { data := #[] }] 40)).frozen? ⟨wr.heap.size, 1, none⟩ = false := (World.frozen?_alloc_mark (wr.drewN (nq + 1)) _ _ 0 0 1).trans rfl
          have n2 : ((wr.drewN (nq + 1)).alloc (.cells #[.int .i64 0, .int .i64 0, .string { data := #[] }] 40)).cell? ⟨wr.heap.size, 2, none⟩ = some (.string { data := #[] }) := (World.cell?_alloc_mark (wr.drewN (nq + 1)) _ _ (0, 0) 2).trans rfl
          have f2 : ((wr.drewN (nq + 1)).alloc (.cells #[.int .i64 0, .int .i64 0, .string { data := #[] }] 40)).frozen? ⟨wr.heap.size, 2, none⟩ = false := (World.frozen?_alloc_mark (wr.drewN (nq + 1)) _ _ 0 0 2).trans rfl
          have i1 : (0 : Int) ≤ (a : Int) + 1 := by omega
          have j0 : (a : Int) < (s.size : Int) := by omega
          have j1 : (a : Int) + 1 < (s.size : Int) := by omega
          have k1 : (a : Int) + 4 ≤ (a : Int) + 4 + (N : Int) := by omega
          have k2 : (a : Int) + 4 + (N : Int) ≤ (s.size : Int) := by omega
          have HBn := Aside0.mk (pw_below_drewN hB.out nq)
          have HRn := Aside0.mk (hR.out.below (pw_below_drewN (Below.refl _ _) nq))
          have HPE := Aside0.mk (And.intro e0 (And.intro e1 hps))
          have HVV := Aside0.mk (And.intro hv0 (And.intro hv1 (And.intro hV0 hV1)))
          have HRR := Aside0.mk hr
          clear hv0 hv1 hr hV0 hV1 e0 e1 hps
          go_wp2_with fail
          go_region
          obtain ⟨B, hBB⟩ : ∃ B, B = s.extract (a + 4) (a + 4 + N) := ⟨_, rfl⟩
          rw [← hBB]
          obtain ⟨g, hg⟩ : ∃ g, g = wr.heap.size := ⟨_, rfl⟩
          have HW1 : ((((((wr.drewN (nq + 1)).alloc (Obj.cells #[Value.int IntKind.i64 0, Value.int IntKind.i64 0, Value.string { data := #[] }] 40)).setCell { block := wr.heap.size, off := 0 } (Value.int IntKind.i64 ((V0 : Int) % 32))).setCell { block := wr.heap.size, off := 1 } (Value.int IntKind.i64 (V1 : Int))).setCell { block := wr.heap.size, off := 2 } (Value.string B))).heap[g]? = some (.cells #[.int .i64 ((V0 : Int) % 32), .int .i64 (V1 : Int), .string B] 40 (0, 0)) := by
            have h := blk_set (blk_set (blk_set (blk_new (wr.drewN (nq + 1)) (Obj.cells #[Value.int IntKind.i64 0, Value.int IntKind.i64 0, Value.string { data := #[] }] 40)) 0 (.int .i64 ((V0 : Int) % 32))) 1 (.int .i64 (V1 : Int))) 2 (.string B)
            rw [hg]
            exact h
          have HBw : Below w.heap.size w ((((((wr.drewN (nq + 1)).alloc (Obj.cells #[Value.int IntKind.i64 0, Value.int IntKind.i64 0, Value.string { data := #[] }] 40)).setCell { block := wr.heap.size, off := 0 } (Value.int IntKind.i64 ((V0 : Int) % 32))).setCell { block := wr.heap.size, off := 1 } (Value.int IntKind.i64 (V1 : Int))).setCell { block := wr.heap.size, off := 2 } (Value.string B))) :=
            ((((pw_below_drewN hB.out (nq + 1)).alloc hB.out.size _).setCell (p := ⟨wr.heap.size, 0, none⟩) hB.out.size _).setCell (p := ⟨wr.heap.size, 1, none⟩) hB.out.size _).setCell (p := ⟨wr.heap.size, 2, none⟩) hB.out.size _
          have hRa : RowV ((wr.drewN (nq + 1)).alloc (Obj.cells #[Value.int IntKind.i64 0, Value.int IntKind.i64 0, Value.string { data := #[] }] 40)) w.heap.size 40 3 u4 l.length (partV l) := (hR.out.below (pw_below_drewN (Below.refl _ _) (nq + 1))).alloc _
          have hne : u4.ownBlock ≠ some wr.heap.size := fun e => by have := (hR.out.lt e).1; omega
          have HRw : RowV ((((((wr.drewN (nq + 1)).alloc (Obj.cells #[Value.int IntKind.i64 0, Value.int IntKind.i64 0, Value.string { data := #[] }] 40)).setCell { block := wr.heap.size, off := 0 } (Value.int IntKind.i64 ((V0 : Int) % 32))).setCell { block := wr.heap.size, off := 1 } (Value.int IntKind.i64 (V1 : Int))).setCell { block := wr.heap.size, off := 2 } (Value.string B))) w.heap.size 40 3 u4 l.length (partV l) :=
            ((hRa.setCell (p := ⟨wr.heap.size, 0, none⟩) _ hne).setCell (p := ⟨wr.heap.size, 1, none⟩) _ hne).setCell (p := ⟨wr.heap.size, 2, none⟩) _ hne
          have hgw : w.heap.size ≤ g := by rw [hg]; exact hB.out.size
          have hneg : u4.ownBlock ≠ some g := by rw [hg]; exact hne
          rw [← hg] at HW1 HBw HRw ⊢
          generalize ((((((wr.drewN (nq + 1)).alloc (Obj.cells #[Value.int IntKind.i64 0, Value.int IntKind.i64 0, Value.string { data := #[] }] 40)).setCell { block := g, off := 0 } (Value.int IntKind.i64 ((V0 : Int) % 32))).setCell { block := g, off := 1 } (Value.int IntKind.i64 (V1 : Int))).setCell { block := g, off := 2 } (Value.string B))) = WW at *
          have hpad := @padN_is s r a N HRR.out HPE.out.2.2
          have hpad0 := @padN_zero r
          have HK1 := Aside0.mk HW1
          have HB1 := Aside0.mk HBw
          have HR1 := Aside0.mk HRw
          have hgl := blk_lt HW1
          have u0 := blk_cell HW1 0
          have u1 := blk_cell HW1 1
          have u2 := blk_cell HW1 2
          have g2f := blk_frozen HW1 2
          simp only [List.getElem?_toArray, List.getElem?_cons_zero, List.getElem?_cons_succ] at u0 u1 u2
          have HBw := HB1
          have HPAD := Aside0.mk hpad
          have HPAD0 := Aside0.mk hpad0
          have hBs : B.size = N := by rw [hBB, ByteArray.size_extract]; omega
          obtain ⟨nl, hnl⟩ : ∃ n, n = l.length := ⟨_, rfl⟩
          rw [← hnl] at HR1
          have HN := Aside0.mk hnl
          have hnl9 : 4 * nl ≤ a := by have := hal.out; omega
          have HBB := Aside0.mk hBB
          clear hpad hpad0 HW1 HRw n0 n1 n2 f0 f1 f2 hRa hne hg hBB hnl hR
          by_cases z3 : V0 / 64 = 2
          · have q4 : ((V0 : Int) / 64 != 2) = false := by simp; omega
            by_cases z4 : V1 < 192
            · have q5 : decide ((V1 : Int) < 192) = true := decide_eq_true (by omega)
              have hp : partErr r = 81 := by rw [partErr_is HPE.out.1 HPE.out.2.1 HPE.out.2.2 (by omega)]; rw [if_neg (by omega), if_pos (by omega)]
              have HE := Aside0.mk (splitP_bad h1 h0 (hBe.out.bad (by omega) (by rw [hp]; decide)))
              have HE2 := Aside0.mk hp
              clear hp
              go_wp2_with fail
              go_ret2
              exact ⟨_, by rw [HE.out, HE2.out]; rfl, by rw [HE.out]; exact RowV.nil _ _ _ _, HBw.out⟩
            · have q5 : decide ((V1 : Int) < 192) = false := decide_eq_false (by omega)
              by_cases z5 : 223 < V1
              · have q6 : decide (223 < (V1 : Int)) = true := decide_eq_true (by omega)
                have hp : partErr r = 81 := by rw [partErr_is HPE.out.1 HPE.out.2.1 HPE.out.2.2 (by omega)]; rw [if_neg (by omega), if_pos (by omega)]
                have HE := Aside0.mk (splitP_bad h1 h0 (hBe.out.bad (by omega) (by rw [hp]; decide)))
                have HE2 := Aside0.mk hp
                clear hp
                go_wp2_with fail
                go_ret2
                exact ⟨_, by rw [HE.out, HE2.out]; rfl, by rw [HE.out]; exact RowV.nil _ _ _ _, HBw.out⟩
              · have q6 : decide (223 < (V1 : Int)) = false := decide_eq_false (by omega)
                by_cases z6 : V0 / 32 % 2 = 1
                · have q7 : (bits BinOp.and IntKind.u8 ((V0 : Int) / 32) 1 == 1) = true := by rw [and_pad V0 l0, z6]; rfl
                  by_cases z7 : a + (4 + N) < s.size
                  · have q8 : decide ((a : Int) + (4 + (N : Int)) < (s.size : Int)) = true := decide_eq_true (by omega)
                    have hp : partErr r = 91 := by rw [partErr_is HPE.out.1 HPE.out.2.1 HPE.out.2.2 (by omega)]; rw [if_neg (by omega), if_neg (by omega), if_pos ⟨z6, by omega⟩]
                    have HE := Aside0.mk (splitP_bad h1 h0 (hBe.out.bad (by omega) (by rw [hp]; decide)))
                    have HE2 := Aside0.mk hp
                    clear hp
                    go_wp2_with fail
                    go_ret2
                    exact ⟨_, by rw [HE.out, HE2.out]; rfl, by rw [HE.out]; exact RowV.nil _ _ _ _, HBw.out⟩
                  · have q8 : decide ((a : Int) + (4 + (N : Int)) < (s.size : Int)) = false := decide_eq_false (by omega)
                    by_cases z8 : N = 0
                    · have q9 : ((N : Int) == 0) = true := by simp; omega
                      have hp : partErr r = 91 := by rw [partErr_is HPE.out.1 HPE.out.2.1 HPE.out.2.2 (by omega)]; rw [if_neg (by omega), if_neg (by omega), if_pos ⟨z6, by have := HPAD0.out (by rw [HPE.out.2.2, z8]); omega⟩]
                      have HE := Aside0.mk (splitP_bad h1 h0 (hBe.out.bad (by omega) (by rw [hp]; decide)))
                      have HE2 := Aside0.mk hp
                      clear hp
                      go_wp2_with fail
                      go_ret2
                      exact ⟨_, by rw [HE.out, HE2.out]; rfl, by rw [HE.out]; exact RowV.nil _ _ _ _, HBw.out⟩
                    · have q9 : ((N : Int) == 0) = false := by simp; omega
                      obtain ⟨K, hK⟩ : ∃ K, K = byteN s (a + 4 + (N - 1)) := ⟨_, rfl⟩
                      have hKl : K < 256 := by rw [hK]; exact byteN_lt _ _
                      have hpK : padN r = K := by rw [hK]; exact HPAD.out (by omega)
                      have hbk : ∀ h : ((N : Int) - 1).toNat < B.size, ((B[((N : Int) - 1).toNat]'h).toNat : Int) = (K : Int) := fun h => by
                        rw [bt_at B ((N : Int) - 1) h, show (N : Int) - 1 = ((N - 1 : Nat) : Int) by omega, HBB.out, bt_extract s _ _ _ (by omega) (by omega), hK]
                      have hbk2 : ∀ h : N - 1 < B.size, ((B[N - 1]'h).toNat : Int) = (K : Int) := fun h => by
                        have := hbk (by omega)
                        rw [← this]
                        congr 3
                        omega
                      have r1 : (0 : Int) ≤ (N : Int) - 1 := by omega
                      have r2 : (N : Int) - 1 < (N : Int) := by omega
                      have r3 : (N : Int) - 1 < (B.size : Int) := by omega
                      have HKp := Aside0.mk hpK
                      clear hK hpK
                      by_cases z9 : K < 4
                      · have q10 : decide ((K : Int) < 4) = true := decide_eq_true (by omega)
                        have hp : partErr r = 91 := by rw [partErr_is HPE.out.1 HPE.out.2.1 HPE.out.2.2 (by omega)]; rw [if_neg (by omega), if_neg (by omega), if_pos ⟨z6, by rw [HKp.out]; omega⟩]
                        have HE := Aside0.mk (splitP_bad h1 h0 (hBe.out.bad (by omega) (by rw [hp]; decide)))
                        have HE2 := Aside0.mk hp
                        clear hp
                        go_wp2_with fail
                        go_ret2
                        exact ⟨_, by rw [HE.out, HE2.out]; rfl, by rw [HE.out]; exact RowV.nil _ _ _ _, HBw.out⟩
                      · have q10 : decide ((K : Int) < 4) = false := decide_eq_false (by omega)
                        by_cases z10 : K % 4 = 0
                        · have q11 : ((K : Int) % 4 != 0) = false := by simp; omega
                          by_cases z11 : N < K
                          · have q12 : decide ((N : Int) < (K : Int)) = true := decide_eq_true (by omega)
                            have hp : partErr r = 91 := by rw [partErr_is HPE.out.1 HPE.out.2.1 HPE.out.2.2 (by omega)]; rw [if_neg (by omega), if_neg (by omega), if_pos ⟨z6, by rw [HKp.out]; omega⟩]
                            have HE := Aside0.mk (splitP_bad h1 h0 (hBe.out.bad (by omega) (by rw [hp]; decide)))
                            have HE2 := Aside0.mk hp
                            clear hp
                            go_wp2_with fail
                            go_ret2
                            exact ⟨_, by rw [HE.out, HE2.out]; rfl, by rw [HE.out]; exact RowV.nil _ _ _ _, HBw.out⟩
                          · have q12 : decide ((N : Int) < (K : Int)) = false := decide_eq_false (by omega)
                            have r4 : (0 : Int) ≤ (N : Int) - (K : Int) := by omega
                            have r5 : (N : Int) - (K : Int) ≤ (N : Int) := by omega
                            have r6 : (N : Int) - (K : Int) ≤ (B.size : Int) := by omega
                            go_upto_region 27 with fail
                            obtain ⟨Z, hZ⟩ : ∃ Z, Z = B.extract 0 (N - K) := ⟨_, rfl⟩
                            rw [← hZ]
                            have hk2 := blk_set HK1.out 2 (.string Z)
                            have HKw : Aside0 ((WW.setCell ⟨g, 2, none⟩ (.string Z)).heap[g]? = some (.cells #[.int .i64 ((V0 : Int) % 32), .int .i64 (V1 : Int), .string Z] 40 (0, 0))) := ⟨hk2⟩
                            have HRw := Aside0.mk (HR1.out.setCell (p := ⟨g, 2, none⟩) (.string Z) hneg)
                            have HBw := Aside0.mk (HB1.out.setCell (p := ⟨g, 2, none⟩) hgw (.string Z))
                            have HP0 := Aside0.mk (show partErr r = 0 by rw [partErr_is HPE.out.1 HPE.out.2.1 HPE.out.2.2 (by omega)]; rw [if_neg (by omega), if_neg (by omega), if_neg (fun h => h.2 ⟨by omega, by rw [HKp.out]; omega, by rw [HKp.out]; omega, by rw [HKp.out]; omega⟩)])
                            have hbody : partBody r = Z := by
                              unfold partBody
                              rw [HPE.out.1, HPE.out.2.2, if_pos z6, HKp.out, HRR.out, rest_extract _ _ _ _ (by omega), hZ, HBB.out, ByteArray.extract_extract]
                              congr 1 <;> omega
                            have HZV := Aside0.mk (show partV l ++ [Value.int IntKind.i64 ((V0 : Int) % 32), Value.int IntKind.i64 (V1 : Int), Value.string Z] = partV (l ++ [partOf r]) by
                              rw [partV_snoc]
                              unfold partOf
                              rw [hbody, HPE.out.1, HPE.out.2.1]
                              rfl)
                            clear hbody hZ
                            clear hk2 u0 u1 u2 g2f
                            generalize WW.setCell ⟨g, 2, none⟩ (.string Z) = WW at *
                            have u0 := blk_cell HKw.out 0
                            have u1 := blk_cell HKw.out 1
                            have u2 := blk_cell HKw.out 2
                            simp only [List.getElem?_toArray, List.getElem?_cons_zero, List.getElem?_cons_succ] at u0 u1 u2
                            have HRy := Aside0.mk (HRw.out.alloc (.cells #[.int .i64 ((V0 : Int) % 32), .int .i64 (V1 : Int), .string Z] 40))
                            have HBy := Aside0.mk (HBw.out.alloc (o := .cells #[.int .i64 ((V0 : Int) % 32), .int .i64 (V1 : Int), .string Z] 40) HBw.out.size)
                            have HNX := Aside0.mk (new_news WW [.int .i64 ((V0 : Int) % 32), .int .i64 (V1 : Int), .string Z] 40)
                            have HSy : Aside0 (w.heap.size ≤ (WW.alloc (.cells #[.int .i64 ((V0 : Int) % 32), .int .i64 (V1 : Int), .string Z] 40)).heap.size) := ⟨HBy.out.size⟩
                            go_wp2_with (at_builtin; go_loud (refine row_append (w := WW.alloc (.cells #[.int .i64 ((V0 : Int) % 32), .int .i64 (V1 : Int), .string Z] 40)) rfl (.tmp 120) (.tmp 122) 22 rfl 40 Try.t40 (.agg #[.int .i64 0, .int .i64 0, .string { data := #[] }]) 3 32 Try.underlying22 (by kernel_rfl) rfl rfl rfl (by decide) (by decide) w.heap.size u4 nl (partV l) (by rfl) HRy.out ⟨WW.heap.size, 0, none⟩ 1 1 [.int .i64 ((V0 : Int) % 32), .int .i64 (V1 : Int), .string Z] (by rfl) rfl HNX.out (by simp [Value.oneCell']) (by simp only [maxLen]; omega) (by omega) HSy.out ?_); intro v6 w6 hR6 hG6 hO6 hF6; have HR6 := Aside0.mk hR6; have HB6 := Aside0.mk (below_new HBy.out hG6 (fun k hk => (HRy.out.lt hk).2.1)); clear hR6 hG6 hO6 hF6)
                            refine ⟨⟨a + (4 + N), l ++ [partOf r], by simp, ⟨?_⟩, by omega, ⟨?_⟩, ⟨?_⟩, HB6⟩, ?_⟩
                            · have h := HR6.out
                              rw [HZV.out] at h
                              rw [List.length_append, ← HN.out]
                              exact h
                            · rw [List.length_append]
                              simp only [List.length_cons, List.length_nil]
                              have := hal.out
                              omega
                            · have h := hBe.out.next (by omega) HP0.out
                              have e : restOf r = s.extract (a + (4 + N)) s.size := by
                                unfold restOf
                                rw [HPE.out.2.2, hrs, HRR.out, rest_extract _ _ _ _ (by omega)]
                                congr 1
                                omega
                              rw [e] at h
                              exact h
                            · simp [intOf]
                              omega
                        · have q11 : ((K : Int) % 4 != 0) = true := by simp; omega
                          have hp : partErr r = 91 := by rw [partErr_is HPE.out.1 HPE.out.2.1 HPE.out.2.2 (by omega)]; rw [if_neg (by omega), if_neg (by omega), if_pos ⟨z6, by rw [HKp.out]; omega⟩]
                          have HE := Aside0.mk (splitP_bad h1 h0 (hBe.out.bad (by omega) (by rw [hp]; decide)))
                          have HE2 := Aside0.mk hp
                          clear hp
                          go_wp2_with fail
                          go_ret2
                          exact ⟨_, by rw [HE.out, HE2.out]; rfl, by rw [HE.out]; exact RowV.nil _ _ _ _, HBw.out⟩
                · have q7 : (bits BinOp.and IntKind.u8 ((V0 : Int) / 32) 1 == 1) = false := by rw [and_pad V0 l0, show V0 / 32 % 2 = 0 by omega]; rfl
                  go_upto_region 27 with fail
                  obtain ⟨Z, hZ⟩ : ∃ Z, Z = B := ⟨_, rfl⟩
                  rw [← hZ]
                  rw [← hZ] at HK1
                  have HKw := HK1
                  have HRw := HR1
                  have HBw := HB1
                  have HP0 := Aside0.mk (show partErr r = 0 by rw [partErr_is HPE.out.1 HPE.out.2.1 HPE.out.2.2 (by omega)]; rw [if_neg (by omega), if_neg (by omega), if_neg (fun h => z6 h.1)])
                  have hbody : partBody r = Z := by
                    unfold partBody
                    rw [HPE.out.1, HPE.out.2.2, if_neg z6, HRR.out, rest_extract _ _ _ _ (by omega), hZ, HBB.out]
                    congr 1 <;> omega
                  have HZV := Aside0.mk (show partV l ++ [Value.int IntKind.i64 ((V0 : Int) % 32), Value.int IntKind.i64 (V1 : Int), Value.string Z] = partV (l ++ [partOf r]) by
                    rw [partV_snoc]
                    unfold partOf
                    rw [hbody, HPE.out.1, HPE.out.2.1]
                    rfl)
                  clear hbody hZ
                  clear u0 u1 u2 g2f
                  have u0 := blk_cell HKw.out 0
                  have u1 := blk_cell HKw.out 1
                  have u2 := blk_cell HKw.out 2
                  simp only [List.getElem?_toArray, List.getElem?_cons_zero, List.getElem?_cons_succ] at u0 u1 u2
                  have HRy := Aside0.mk (HRw.out.alloc (.cells #[.int .i64 ((V0 : Int) % 32), .int .i64 (V1 : Int), .string Z] 40))
                  have HBy := Aside0.mk (HBw.out.alloc (o := .cells #[.int .i64 ((V0 : Int) % 32), .int .i64 (V1 : Int), .string Z] 40) HBw.out.size)
                  have HNX := Aside0.mk (new_news WW [.int .i64 ((V0 : Int) % 32), .int .i64 (V1 : Int), .string Z] 40)
                  have HSy : Aside0 (w.heap.size ≤ (WW.alloc (.cells #[.int .i64 ((V0 : Int) % 32), .int .i64 (V1 : Int), .string Z] 40)).heap.size) := ⟨HBy.out.size⟩
                  go_wp2_with (at_builtin; go_loud (refine row_append (w := WW.alloc (.cells #[.int .i64 ((V0 : Int) % 32), .int .i64 (V1 : Int), .string Z] 40)) rfl (.tmp 120) (.tmp 122) 22 rfl 40 Try.t40 (.agg #[.int .i64 0, .int .i64 0, .string { data := #[] }]) 3 32 Try.underlying22 (by kernel_rfl) rfl rfl rfl (by decide) (by decide) w.heap.size u4 nl (partV l) (by rfl) HRy.out ⟨WW.heap.size, 0, none⟩ 1 1 [.int .i64 ((V0 : Int) % 32), .int .i64 (V1 : Int), .string Z] (by rfl) rfl HNX.out (by simp [Value.oneCell']) (by simp only [maxLen]; omega) (by omega) HSy.out ?_); intro v6 w6 hR6 hG6 hO6 hF6; have HR6 := Aside0.mk hR6; have HB6 := Aside0.mk (below_new HBy.out hG6 (fun k hk => (HRy.out.lt hk).2.1)); clear hR6 hG6 hO6 hF6)
                  refine ⟨⟨a + (4 + N), l ++ [partOf r], by simp, ⟨?_⟩, by omega, ⟨?_⟩, ⟨?_⟩, HB6⟩, ?_⟩
                  · have h := HR6.out
                    rw [HZV.out] at h
                    rw [List.length_append, ← HN.out]
                    exact h
                  · rw [List.length_append]
                    simp only [List.length_cons, List.length_nil]
                    have := hal.out
                    omega
                  · have h := hBe.out.next (by omega) HP0.out
                    have e : restOf r = s.extract (a + (4 + N)) s.size := by
                      unfold restOf
                      rw [HPE.out.2.2, hrs, HRR.out, rest_extract _ _ _ _ (by omega)]
                      congr 1
                      omega
                    rw [e] at h
                    exact h
                  · simp [intOf]
                    omega
          · have q4 : ((V0 : Int) / 64 != 2) = true := by simp; omega
            have hp : partErr r = 70 := by rw [partErr_is HPE.out.1 HPE.out.2.1 HPE.out.2.2 (by omega)]; rw [if_pos (by omega)]
            have HE := Aside0.mk (splitP_bad h1 h0 (hBe.out.bad (by omega) (by rw [hp]; decide)))
            have HE2 := Aside0.mk hp
            clear hp
            go_wp2_with fail
            go_ret2
            exact ⟨_, by rw [HE.out, HE2.out]; rfl, by rw [HE.out]; exact RowV.nil _ _ _ _, HBw.out⟩
    · have hae : a = s.size := by omega
      have q1 : decide ((a : Int) < (s.size : Int)) = false := decide_eq_false (by omega)
      have HE := Aside0.mk (splitP_ok h1 h0 (hBe.out.done (by rw [hae]; simp)))
      go_wp2_with fail
      go_ret2
      exact ⟨u4, by rw [HE.out]; rfl, by rw [HE.out]; exact hR.out, hB.out⟩
end Go.Proofs.Yteegleldmnokkaa.B
