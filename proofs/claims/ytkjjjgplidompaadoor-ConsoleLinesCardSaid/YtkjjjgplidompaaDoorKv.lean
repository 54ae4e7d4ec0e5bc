/-
  What is told, as a line: the words; the reference's way. Walk.
-/
import Derived.Test.YtkjjjgplidompaaDoorKt
import Derived.Test.YtkjjjgplidompaaDoorSa
namespace Go.Proofs.YtkjjjgplidompaaDoor.B
open Go.RowKit Go.Proofs.YtkjjjgplidompaaDoorW.PrintWords Go.Proofs.YtkjjjgplidompaaDoorW.PrintLast Go.Proofs.YtkjjjgplidompaaDoorW.PrintMore
set_option linter.unusedVariables false
set_option linter.unusedSimpArgs false
/-! The words. -/
structure LTold where
  a0 : Int
  a1 : Int
  a2 : Int
  a3 : Int
  a4 : Int
  a5 : Int
  a6 : Int
  a7 : Int
  a8 : Int
  no : Nat
  nd : Nat
  f : Nat → Int
  h : Nat → Int
def nineN (T : LTold) : List Int := [T.a0, T.a1, T.a2, T.a3, T.a4, T.a5, T.a6, T.a7, T.a8]
def nineW (T : LTold) (k : Nat) : List (List UInt8) := ((nineN T).take k).map Lib.itoa
def outW (T : LTold) : Nat → List (List UInt8)
  | 0 => nineW T 9
  | i + 1 => outW T i ++ [[111], Lib.itoa (T.f (i * 7)), Lib.itoa (T.f (i * 7 + 4))]
def drW (T : LTold) : Nat → List (List UInt8)
  | 0 => outW T T.no
  | i + 1 => drW T i ++ [[100], Lib.itoa (T.h i)]
def nineS (T : LTold) : List UInt8 := Lib.itoa T.a0 ++ [32] ++ Lib.itoa T.a1 ++ [32] ++ Lib.itoa T.a2 ++ [32] ++ Lib.itoa T.a3 ++ [32] ++ Lib.itoa T.a4 ++ [32] ++ Lib.itoa T.a5 ++ [32] ++ Lib.itoa T.a6 ++ [32] ++ Lib.itoa T.a7 ++ [32] ++ Lib.itoa T.a8
def outS (T : LTold) : Nat → List UInt8
  | 0 => nineS T
  | i + 1 => outS T i ++ ([32, 111, 32] ++ Lib.itoa (T.f (i * 7)) ++ [32] ++ Lib.itoa (T.f (i * 7 + 4)))
def drS (T : LTold) : Nat → List UInt8
  | 0 => outS T T.no
  | i + 1 => drS T i ++ ([32, 100, 32] ++ Lib.itoa (T.h i))
theorem join_app (W V : List (List UInt8)) (h : W ≠ []) : Lib.join (W ++ V) [32] = Lib.join W [32] ++ Lib.joinTail [32] V := by
  cases W with
  | nil => exact absurd rfl h
  | cons x r =>
    rw [List.cons_append, Lib.join_cons, Lib.join_cons, Lib.joinTail, Lib.joinTail, Lib.joinTail, List.map_append, List.flatten_append, List.append_assoc]
theorem outW_ne (T : LTold) : ∀ i, outW T i ≠ []
  | 0 => by simp [outW, nineW, nineN]
  | i + 1 => by simp [outW]
theorem drW_ne (T : LTold) : ∀ i, drW T i ≠ []
  | 0 => outW_ne T _
  | i + 1 => by simp [drW]
theorem outW_join (T : LTold) : ∀ i, Lib.join (outW T i) [32] = outS T i
  | 0 => by simp [outW, nineW, nineN, outS, nineS, Lib.join_cons, Lib.joinTail]
  | i + 1 => by
    rw [outW, join_app _ _ (outW_ne T i), outW_join T i, outS]
    simp [Lib.joinTail]
theorem drW_join (T : LTold) : ∀ i, Lib.join (drW T i) [32] = drS T i
  | 0 => outW_join T _
  | i + 1 => by
    rw [drW, join_app _ _ (drW_ne T i), drW_join T i, drS]
    simp [Lib.joinTail]
theorem outW_len (T : LTold) : ∀ i, (outW T i).length = 9 + 3 * i
  | 0 => by simp [outW, nineW, nineN]
  | i + 1 => by
    rw [outW, List.length_append, outW_len T i]
    simp; omega
theorem drW_len (T : LTold) : ∀ i, (drW T i).length = 9 + 3 * T.no + 2 * i
  | 0 => outW_len T _
  | i + 1 => by
    rw [drW, List.length_append, drW_len T i]
    simp; omega
/-- What the numbers hold. -/
structure ToI (T : LTold) : Prop where
  n : ∀ x ∈ nineN T, I64 x
  f : ∀ j, j < T.no * 7 → I64 (T.f j)
  h : ∀ j, j < T.nd → I64 (T.h j)
  no : T.no ≤ 300
  nd : T.nd ≤ 300
theorem itoa_lenI {n : Int} (h : I64 n) : (Lib.itoa n).length ≤ 20 := itoa_len n h.1 h.2
theorem nineS_len {T : LTold} (h : ToI T) : (nineS T).length ≤ 188 := by
  have l0 := itoa_lenI (h.n T.a0 (by simp [nineN]))
  have l1 := itoa_lenI (h.n T.a1 (by simp [nineN]))
  have l2 := itoa_lenI (h.n T.a2 (by simp [nineN]))
  have l3 := itoa_lenI (h.n T.a3 (by simp [nineN]))
  have l4 := itoa_lenI (h.n T.a4 (by simp [nineN]))
  have l5 := itoa_lenI (h.n T.a5 (by simp [nineN]))
  have l6 := itoa_lenI (h.n T.a6 (by simp [nineN]))
  have l7 := itoa_lenI (h.n T.a7 (by simp [nineN]))
  have l8 := itoa_lenI (h.n T.a8 (by simp [nineN]))
  unfold nineS
  simp
  omega
theorem outS_len {T : LTold} (h : ToI T) : ∀ i, i ≤ T.no → (outS T i).length ≤ 188 + 44 * i
  | 0, _ => nineS_len h
  | i + 1, hi => by
    have l0 := outS_len h i (by omega)
    have l1 := itoa_lenI (h.f (i * 7) (by omega))
    have l2 := itoa_lenI (h.f (i * 7 + 4) (by omega))
    rw [outS]
    simp
    omega
theorem drS_len {T : LTold} (h : ToI T) : ∀ i, i ≤ T.nd → (drS T i).length ≤ 188 + 44 * T.no + 23 * i
  | 0, _ => outS_len h _ (Nat.le_refl _)
  | i + 1, hi => by
    have l0 := drS_len h i (by omega)
    have l1 := itoa_lenI (h.h i (by omega))
    rw [drS]
    simp
    omega
/-! Whole numbers that lie behind an address. -/
def IntsAt (w : World) (A : Option Addr) (m : Nat) (f : Nat → Int) : Prop := ∀ j, j < m → ∃ ad, A = some ad ∧ w.cell? (ad.add j) = some (.int .i64 (f j))
theorem cell_b {w w' : World} {p : Addr} {v : Value} (h : w.cell? p = some v) (hb : Below w.heap.size w w') : w'.cell? p = some v := by
  rw [World.cell?_of_block (hb.block _ (World.block_lt_of_cell? w _ h))]
  exact h
theorem IntsAt.below {w w' : World} {A : Option Addr} {m : Nat} {f : Nat → Int} (h : IntsAt w A m f) (hb : Below w.heap.size w w') : IntsAt w' A m f := fun j hj => by
  obtain ⟨ad, e, hc⟩ := h j hj
  exact ⟨ad, e, cell_b hc hb⟩
theorem add_field7 (ad : Addr) (m j : Nat) (h : j ≠ 0) : ad.add (m + j) = ⟨(ad.add m).block, (ad.add m).off + j, none⟩ := by
  unfold Addr.add
  rw [if_neg (by omega)]
  split <;> simp <;> omega
def toC (T : LTold) (A : Option Addr) (cO : Nat) (B : Option Addr) (cD : Nat) : Array Value := #[.int .i64 T.a0, .int .i64 T.a1, .int .i64 T.a2, .int .i64 T.a3, .int .i64 T.a4, .int .i64 T.a5, .int .i64 T.a6, .int .i64 T.a7, .int .i64 T.a8, .slice A T.no cO, .slice B T.nd cD]
/-- What is told lies in its block, and what it tells of lies where it lay. -/
structure TellIn (T : LTold) (A : Option Addr) (cO : Nat) (B : Option Addr) (cD : Nat) (g1 : Nat) (w0 w : World) : Prop where
  blk : w.heap[g1]? = some (.cells (toC T A cO B cD) 43 (0, 0))
  bel : Below w0.heap.size w0 w
  outs : IntsAt w A (T.no * 7) T.f
  drops : IntsAt w B T.nd T.h
theorem ti_b {T : LTold} {A : Option Addr} {cO : Nat} {B : Option Addr} {cD : Nat} {g1 : Nat} {w0 w w' : World} (h : Aside0 (TellIn T A cO B cD g1 w0 w)) (hb : Below w.heap.size w w') : Aside0 (TellIn T A cO B cD g1 w0 w') := ⟨(hb.block g1 (blk_ltI h.out.blk)).trans h.out.blk, h.out.bel.trans (hb.mono h.out.bel.size), h.out.outs.below hb, h.out.drops.below hb⟩
theorem dN (w : World) (m : Nat) : Below w.heap.size w (w.drewN m) := pw_below_drewN (Below.refl _ w) m
theorem d1 (w : World) : Below w.heap.size w w.drew := (Below.refl _ w).drew
theorem toCells {w : World} {g : Nat} {u0 u1 u2 u3 u4 u5 u6 u7 u8 u9 u10 : Value} {t : TypeId} {c : Nat × Nat} (h : w.heap[g]? = some (.cells #[u0, u1, u2, u3, u4, u5, u6, u7, u8, u9, u10] t c)) : w.cell? ⟨g, 0, none⟩ = some u0 ∧ w.cell? ⟨g, 1, none⟩ = some u1 ∧ w.cell? ⟨g, 2, none⟩ = some u2 ∧ w.cell? ⟨g, 3, none⟩ = some u3 ∧ w.cell? ⟨g, 4, none⟩ = some u4 ∧ w.cell? ⟨g, 5, none⟩ = some u5 ∧ w.cell? ⟨g, 6, none⟩ = some u6 ∧ w.cell? ⟨g, 7, none⟩ = some u7 ∧ w.cell? ⟨g, 8, none⟩ = some u8 ∧ w.cell? ⟨g, 9, none⟩ = some u9 ∧ w.cell? ⟨g, 10, none⟩ = some u10 := by
  refine ⟨?_, ?_, ?_, ?_, ?_, ?_, ?_, ?_, ?_, ?_, ?_⟩ <;> simp [World.cell?, h]
def TellPost (T : LTold) (w : World) (e : Ending) (w' : World) : Prop := e = .returned (.string (tx (drS T T.nd))) ∧ Below w.heap.size w w'
theorem dec_I {n : Int} (h : I64 n) (w : World) : Calls Tryd.prog 25 #[.int .i64 n] w fun e w' => e = .returned (.string (tx (Lib.itoa n))) ∧ ∃ m, w' = w.drewN m := dec_any n h.1 h.2 w
def RORel (T : LTold) (A : Option Addr) (cO : Nat) (B : Option Addr) (cD : Nat) (g1 : Nat) (w : World) (v3 v4 : Value) (wr : World) : Prop := ∃ i : Nat, v4 = .int .i64 i ∧ i ≤ T.no ∧ v3 = .string (tx (outS T i)) ∧ Aside0 (TellIn T A cO B cD g1 w wr)
def RDRel (T : LTold) (A : Option Addr) (cO : Nat) (B : Option Addr) (cD : Nat) (g1 : Nat) (w : World) (v3 v5 : Value) (wr : World) : Prop := ∃ i : Nat, v5 = .int .i64 i ∧ i ≤ T.nd ∧ v3 = .string (tx (drS T i)) ∧ Aside0 (TellIn T A cO B cD g1 w wr)
def rtellF (T : LTold) (A : Option Addr) (cO : Nat) (B : Option Addr) (cD : Nat) (g1 : Nat) (L : List UInt8) (q : Nat → Value) : Act := { tmps := #[.agg (toC T A cO B cD), .pointer (some ⟨g1, 0, none⟩), q 2, .string (tx L), q 4, q 5, q 6, q 7, q 8, q 9, q 10, q 11, q 12, q 13, q 14, q 15, q 16, q 17, q 18, q 19, q 20, q 21, q 22, q 23, q 24, q 25, q 26, q 27, q 28, q 29, q 30, q 31, q 32, q 33, q 34, q 35, q 36, q 37, q 38, q 39, q 40, q 41, q 42, q 43, q 44, q 45, q 46, q 47, q 48, q 49, q 50, q 51, q 52, q 53, q 54, q 55, q 56, q 57, q 58, q 59, q 60, q 61, q 62, q 63, q 64, q 65, q 66, q 67, q 68, q 69, q 70, q 71, q 72, q 73, q 74, q 75, q 76, q 77, q 78, q 79, q 80, q 81, q 82, q 83, q 84, q 85, q 86, q 87, q 88, q 89, q 90, q 91, q 92], defers := [] }
set_option maxHeartbeats 4000000 in
set_option maxRecDepth 100000 in
theorem rtell_tail (T : LTold) (A : Option Addr) (cO : Nat) (B : Option Addr) (cD : Nat) (g1 : Nat) (L : List UInt8) (hL : nineS T = L) (w0 : World) (hI : ToI T) (hO : T.no ≤ cO) (hcO : cO ≤ maxLen) (hD : T.nd ≤ cD) (hcD : cD ≤ maxLen) (rest : Code) (hr : tl1 (tl1 (Tryd.f14.body.getD .skip)) = rest) (q : Nat → Value) (w : World) (HT : Aside0 (TellIn T A cO B cD g1 w0 w)) :
    rest.wp Tryd.prog (bodyPost Tryd.prog Tryd.f14 (TellPost T w0)) (rtellF T A cO B cD g1 L q) w := by
  have e := hr.symm.trans (show tl1 (tl1 (Tryd.f14.body.getD .skip)) = .seq _ _ from rfl)
  subst e
  have HI := Aside0.mk hI
  have HLO := Aside0.mk (fun i h => outS_len hI i h)
  have HLD := Aside0.mk (fun i h => drS_len hI i h)
  have h600 : T.no ≤ 300 ∧ T.nd ≤ 300 := ⟨hI.no, hI.nd⟩
  have HL := Aside0.mk hL
  clear hI hr hL
  unfold rtellF toC
  go_wp2_with fail
  go_loopw [3, 4] (fun v3 v4 wr => RORel T A cO B cD g1 w0 v3 v4 wr) (fun _ v _ => T.no - (intOf v).toNat)
  case atStart => exact ⟨0, rfl, by omega, by rw [← HL.out]; rfl, HT⟩
  case round =>
    obtain ⟨i, rfl, hi, rfl, HR⟩ := hrel
    by_cases hlt : i < T.no
    · have p1 : decide ((i : Int) < (T.no : Int)) = true := decide_eq_true (by omega)
      obtain ⟨ad, rfl, o0⟩ := HR.out.outs (i * 7) (by omega)
      obtain ⟨ad', e', o4⟩ := HR.out.outs (i * 7 + 4) (by omega)
      obtain rfl : ad = ad' := Option.some.inj e'
      rw [add_field7 ad (i * 7) 4 (by decide)] at o4
      have c9 := (toCells HR.out.blk).2.2.2.2.2.2.2.2.2.1
      have lx := itoa_lenI (HI.out.f (i * 7) (by omega))
      have ly := itoa_lenI (HI.out.f (i * 7 + 4) (by omega))
      have DX := Aside0.mk (fun w => dec_I (HI.out.f (i * 7) (by omega)) w)
      have DY := Aside0.mk (fun w => dec_I (HI.out.f (i * 7 + 4) (by omega)) w)
      have HS := Aside0.mk (show outS T (i + 1) = outS T i ++ ([32, 111, 32] ++ Lib.itoa (T.f (i * 7)) ++ [32] ++ Lib.itoa (T.f (i * 7 + 4))) from rfl)
      have ll := HLO.out i (by omega)
      obtain ⟨x, hx⟩ : ∃ x, x = T.f (i * 7) := ⟨_, rfl⟩
      obtain ⟨y, hy⟩ : ∃ x, x = T.f (i * 7 + 4) := ⟨_, rfl⟩
      rw [← hx] at o0 lx DX HS
      rw [← hy] at o4 ly DY HS
      obtain ⟨X, hX⟩ : ∃ X, X = Lib.itoa x := ⟨_, rfl⟩
      obtain ⟨Y, hY⟩ : ∃ X, X = Lib.itoa y := ⟨_, rfl⟩
      obtain ⟨Z, hZ⟩ : ∃ X, X = outS T i := ⟨_, rfl⟩
      rw [← hX] at lx DX HS
      rw [← hY] at ly DY HS
      rw [← hZ] at ll HS
      rw [← hZ]
      have b1 := add_run [32, 111, 32] X (by simp; omega)
      have b2 := add_run ([32, 111, 32] ++ X) [32] (by simp; omega)
      have b3 := add_run ([32, 111, 32] ++ X ++ [32]) Y (by simp; omega)
      have b4 := add_run Z ([32, 111, 32] ++ X ++ [32] ++ Y) (by simp; omega)
      obtain ⟨S4, hS4⟩ : ∃ S, S = Z ++ ([32, 111, 32] ++ X ++ [32] ++ Y) := ⟨_, rfl⟩
      rw [← hS4] at b4 HS
      obtain ⟨S3, hS3⟩ : ∃ S, S = [32, 111, 32] ++ X ++ [32] ++ Y := ⟨_, rfl⟩
      rw [← hS3] at b3 b4
      obtain ⟨S2, hS2⟩ : ∃ S, S = [32, 111, 32] ++ X ++ [32] := ⟨_, rfl⟩
      rw [← hS2] at b2 b3
      obtain ⟨S1, hS1⟩ : ∃ S, S = [32, 111, 32] ++ X := ⟨_, rfl⟩
      rw [← hS1] at b1 b2
      have w5 : IntKind.i64.wrap ((i : Int) + 1) = (i : Int) + 1 := wrap_small _ (by omega) (by omega)
      clear hS1 hS2 hS3 hS4 hX hY hZ hx hy lx ly ll HLO HLD e'
      go_wp2_with fail
      refine start_ (n := 21) (S := fun w' => w'.cell? ⟨g1, 9, none⟩ = some (.slice (some ad) T.no cO) ∧ w'.cell? (ad.add (i * 7)) = some (.int .i64 x) ∧ w'.cell? ⟨(ad.add (i * 7)).block, (ad.add (i * 7)).off + 4, none⟩ = some (.int .i64 y) ∧ Aside0 (TellIn T (some ad) cO B cD g1 w0 w')) (ds := []) #[false, false, false, false, false, false, false, false, false, false, false, false, false, false, false, false, false, false, false, false, false] (by kernel_rfl) rfl rfl ⟨c9, o0, o4, (ti_b HR (d1 _))⟩ (fun hHeld => ?_)
      refine pure_ (i := 0) (N := some 56) (v := ?_) (a' := ?_) #[true, false, false, false, false, false, false, false, false, false, false, false, false, false, false, false, false, false, false, false, false] rfl rfl (by kernel_rfl) (fun _ _ _ h => h) (Or.inl ⟨by rfl, ?_⟩) ?_ ?_
      rotate_left
      · intro w'
        go_simp
        with_reducible rfl
      rotate_left
      · simp only [Act.put, List.setIfInBounds_toArray, List.set_cons_zero, List.set_cons_succ, i64_w, i32_w]
        rfl
      refine pure_ (i := 1) (N := some 57) (v := ?_) (a' := ?_) #[true, true, false, false, false, false, false, false, false, false, false, false, false, false, false, false, false, false, false, false, false] rfl rfl (by kernel_rfl) (fun _ _ _ h => h) (Or.inl ⟨by rfl, ?_⟩) ?_ ?_
      rotate_left
      · intro w'
        go_simp
        with_reducible rfl
      rotate_left
      · simp only [Act.put, List.setIfInBounds_toArray, List.set_cons_zero, List.set_cons_succ, i64_w, i32_w]
        rfl
      refine pure_ (i := 3) (N := some 59) (v := ?_) (a' := ?_) #[true, true, false, true, false, false, false, false, false, false, false, false, false, false, false, false, false, false, false, false, false] rfl rfl (by kernel_rfl) (fun _ _ _ h => h) (Or.inl ⟨by rfl, ?_⟩) ?_ ?_
      rotate_left
      · intro w'
        go_simp
        with_reducible rfl
      rotate_left
      · simp only [Act.put, List.setIfInBounds_toArray, List.set_cons_zero, List.set_cons_succ, i64_w, i32_w]
        rfl
      refine pure_ (i := 11) (N := some 67) (v := ?_) (a' := ?_) #[true, true, false, true, false, false, false, false, false, false, false, true, false, false, false, false, false, false, false, false, false] rfl rfl (by kernel_rfl) (fun _ _ _ h => h) (Or.inl ⟨by rfl, ?_⟩) ?_ ?_
      rotate_left
      · intro w'
        go_simp
        with_reducible rfl
      rotate_left
      · simp only [Act.put, List.setIfInBounds_toArray, List.set_cons_zero, List.set_cons_succ, i64_w, i32_w]
        rfl
      refine pure_ (i := 13) (N := some 69) (v := ?_) (a' := ?_) #[true, true, false, true, false, false, false, false, false, false, false, true, false, true, false, false, false, false, false, false, false] rfl rfl (by kernel_rfl) (fun _ _ _ h => h) (Or.inl ⟨by rfl, ?_⟩) ?_ ?_
      rotate_left
      · intro w'
        go_simp
        with_reducible rfl
      rotate_left
      · simp only [Act.put, List.setIfInBounds_toArray, List.set_cons_zero, List.set_cons_succ, i64_w, i32_w]
        rfl
      refine take_ (i := 2) (N := some 58) (v := ?_) (a' := ?_) #[true, true, true, true, false, false, false, false, false, false, false, true, false, true, false, false, false, false, false, false, false] rfl rfl (by kernel_rfl) (fun _ _ _ h => h) (Or.inl ⟨by rfl, ?_⟩) hHeld ?_ ?_
      rotate_left
      · rintro w' ⟨s0, s1, s2, s3⟩
        go_simp
        with_reducible rfl
      rotate_left
      · simp only [Act.put, List.setIfInBounds_toArray, List.set_cons_zero, List.set_cons_succ, i64_w, i32_w]
        rfl
      refine pure_ (i := 4) (N := some 60) (v := ?_) (a' := ?_) #[true, true, true, true, true, false, false, false, false, false, false, true, false, true, false, false, false, false, false, false, false] rfl rfl (by kernel_rfl) (fun _ _ _ h => h) (Or.inl ⟨by rfl, ?_⟩) ?_ ?_
      rotate_left
      · intro w'
        go_simp
        with_reducible rfl
      rotate_left
      · simp only [Act.put, List.setIfInBounds_toArray, List.set_cons_zero, List.set_cons_succ, i64_w, i32_w]
        rfl
      refine pure_ (i := 5) (N := some 61) (v := ?_) (a' := ?_) #[true, true, true, true, true, true, false, false, false, false, false, true, false, true, false, false, false, false, false, false, false] rfl rfl (by kernel_rfl) (fun _ _ _ h => h) (Or.inl ⟨by rfl, ?_⟩) ?_ ?_
      rotate_left
      · intro w'
        go_simp
        with_reducible rfl
      rotate_left
      · simp only [Act.put, List.setIfInBounds_toArray, List.set_cons_zero, List.set_cons_succ, i64_w, i32_w]
        rfl
      refine pure_ (i := 6) (N := some 62) (v := ?_) (a' := ?_) #[true, true, true, true, true, true, true, false, false, false, false, true, false, true, false, false, false, false, false, false, false] rfl rfl (by kernel_rfl) (fun _ _ _ h => h) (Or.inl ⟨by rfl, ?_⟩) ?_ ?_
      rotate_left
      · intro w'
        go_simp
        with_reducible rfl
      rotate_left
      · simp only [Act.put, List.setIfInBounds_toArray, List.set_cons_zero, List.set_cons_succ, i64_w, i32_w]
        rfl
      refine take_ (i := 7) (N := some 63) (v := ?_) (a' := ?_) #[true, true, true, true, true, true, true, true, false, false, false, true, false, true, false, false, false, false, false, false, false] rfl rfl (by kernel_rfl) (fun _ _ _ h => h) (Or.inl ⟨by rfl, ?_⟩) hHeld ?_ ?_
      rotate_left
      · rintro w' ⟨s0, s1, s2, s3⟩
        go_simp
        with_reducible rfl
      rotate_left
      · simp only [Act.put, List.setIfInBounds_toArray, List.set_cons_zero, List.set_cons_succ, i64_w, i32_w]
        rfl
      refine take_ (i := 12) (N := some 68) (v := ?_) (a' := ?_) #[true, true, true, true, true, true, true, true, false, false, false, true, true, true, false, false, false, false, false, false, false] rfl rfl (by kernel_rfl) (fun _ _ _ h => h) (Or.inl ⟨by rfl, ?_⟩) hHeld ?_ ?_
      rotate_left
      · rintro w' ⟨s0, s1, s2, s3⟩
        go_simp
        with_reducible rfl
      rotate_left
      · simp only [Act.put, List.setIfInBounds_toArray, List.set_cons_zero, List.set_cons_succ, i64_w, i32_w]
        rfl
      refine pure_ (i := 14) (N := some 70) (v := ?_) (a' := ?_) #[true, true, true, true, true, true, true, true, false, false, false, true, true, true, true, false, false, false, false, false, false] rfl rfl (by kernel_rfl) (fun _ _ _ h => h) (Or.inl ⟨by rfl, ?_⟩) ?_ ?_
      rotate_left
      · intro w'
        go_simp
        with_reducible rfl
      rotate_left
      · simp only [Act.put, List.setIfInBounds_toArray, List.set_cons_zero, List.set_cons_succ, i64_w, i32_w]
        rfl
      refine pure_ (i := 15) (N := some 71) (v := ?_) (a' := ?_) #[true, true, true, true, true, true, true, true, false, false, false, true, true, true, true, true, false, false, false, false, false] rfl rfl (by kernel_rfl) (fun _ _ _ h => h) (Or.inl ⟨by rfl, ?_⟩) ?_ ?_
      rotate_left
      · intro w'
        go_simp
        with_reducible rfl
      rotate_left
      · simp only [Act.put, List.setIfInBounds_toArray, List.set_cons_zero, List.set_cons_succ, i64_w, i32_w]
        rfl
      refine take_ (i := 16) (N := some 72) (v := ?_) (a' := ?_) #[true, true, true, true, true, true, true, true, false, false, false, true, true, true, true, true, true, false, false, false, false] rfl rfl (by kernel_rfl) (fun _ _ _ h => h) (Or.inl ⟨by rfl, ?_⟩) hHeld ?_ ?_
      rotate_left
      · rintro w' ⟨s0, s1, s2, s3⟩
        go_simp
        with_reducible rfl
      rotate_left
      · simp only [Act.put, List.setIfInBounds_toArray, List.set_cons_zero, List.set_cons_succ, i64_w, i32_w]
        rfl
      refine one_ (i := 8) (N := some 64) #[true, true, true, true, true, true, true, true, true, false, false, true, true, true, true, true, true, false, false, false, false] rfl rfl (by kernel_rfl) (by decide) (fun K hK => ?_)
      refine goes_ Tryd.func25 (by kernel_rfl) rfl #[.int .i64 x] (by rfl) rfl rfl (by simp only [List.map_toArray, List.map_cons, List.map_nil]; rfl) ?_
      with_reducible refine (DX.out _).mono ?_
      rintro e w3 ⟨rfl, m, rfl⟩
      refine ⟨_, rfl, ?_⟩
      refine hK.out _ _ ⟨(cell_b hHeld.1 (dN _ m)), (cell_b hHeld.2.1 (dN _ m)), (cell_b hHeld.2.2.1 (dN _ m)), (ti_b hHeld.2.2.2 (dN _ m))⟩ (fun hHeld => ?_)
      clear hK K
      refine norm_ (a' := ?_) ?_ ?_
      rotate_left
      · show Act.put _ (some 64) _ = _
        simp only [Act.put, List.setIfInBounds_toArray, List.set_cons_zero, List.set_cons_succ, i64_w, i32_w]
        rfl
      refine pure_ (i := 9) (N := some 65) (v := ?_) (a' := ?_) #[true, true, true, true, true, true, true, true, true, true, false, true, true, true, true, true, true, false, false, false, false] rfl rfl (by kernel_rfl) (fun _ _ _ h => h) (Or.inl ⟨by rfl, ?_⟩) ?_ ?_
      rotate_left
      · intro w'
        go_simp
        with_reducible rfl
      rotate_left
      · simp only [Act.put, List.setIfInBounds_toArray, List.set_cons_zero, List.set_cons_succ, i64_w, i32_w]
        rfl
      refine pure_ (i := 10) (N := some 66) (v := ?_) (a' := ?_) #[true, true, true, true, true, true, true, true, true, true, true, true, true, true, true, true, true, false, false, false, false] rfl rfl (by kernel_rfl) (fun _ _ _ h => h) (Or.inl ⟨by rfl, ?_⟩) ?_ ?_
      rotate_left
      · intro w'
        go_simp
        with_reducible rfl
      rotate_left
      · simp only [Act.put, List.setIfInBounds_toArray, List.set_cons_zero, List.set_cons_succ, i64_w, i32_w]
        rfl
      refine one_ (i := 17) (N := some 73) #[true, true, true, true, true, true, true, true, true, true, true, true, true, true, true, true, true, true, false, false, false] rfl rfl (by kernel_rfl) (by decide) (fun K hK => ?_)
      refine goes_ Tryd.func25 (by kernel_rfl) rfl #[.int .i64 y] (by rfl) rfl rfl (by simp only [List.map_toArray, List.map_cons, List.map_nil]; rfl) ?_
      with_reducible refine (DY.out _).mono ?_
      rintro e w3 ⟨rfl, m, rfl⟩
      refine ⟨_, rfl, ?_⟩
      refine hK.out _ _ ⟨(cell_b hHeld.1 (dN _ m)), (cell_b hHeld.2.1 (dN _ m)), (cell_b hHeld.2.2.1 (dN _ m)), (ti_b hHeld.2.2.2 (dN _ m))⟩ (fun hHeld => ?_)
      clear hK K
      refine norm_ (a' := ?_) ?_ ?_
      rotate_left
      · show Act.put _ (some 73) _ = _
        simp only [Act.put, List.setIfInBounds_toArray, List.set_cons_zero, List.set_cons_succ, i64_w, i32_w]
        rfl
      refine pure_ (i := 18) (N := some 74) (v := ?_) (a' := ?_) #[true, true, true, true, true, true, true, true, true, true, true, true, true, true, true, true, true, true, true, false, false] rfl rfl (by kernel_rfl) (fun _ _ _ h => h) (Or.inl ⟨by rfl, ?_⟩) ?_ ?_
      rotate_left
      · intro w'
        go_simp
        with_reducible rfl
      rotate_left
      · simp only [Act.put, List.setIfInBounds_toArray, List.set_cons_zero, List.set_cons_succ, i64_w, i32_w]
        rfl
      refine pure_ (i := 19) (N := some 75) (v := ?_) (a' := ?_) #[true, true, true, true, true, true, true, true, true, true, true, true, true, true, true, true, true, true, true, true, false] rfl rfl (by kernel_rfl) (fun _ _ _ h => h) (Or.inl ⟨by rfl, ?_⟩) ?_ ?_
      rotate_left
      · intro w'
        go_simp
        with_reducible rfl
      rotate_left
      · simp only [Act.put, List.setIfInBounds_toArray, List.set_cons_zero, List.set_cons_succ, i64_w, i32_w]
        rfl
      refine pure_ (i := 20) (N := some 3) (v := ?_) (a' := ?_) #[true, true, true, true, true, true, true, true, true, true, true, true, true, true, true, true, true, true, true, true, true] rfl rfl (by kernel_rfl) (fun _ _ _ h => h) (Or.inl ⟨by rfl, ?_⟩) ?_ ?_
      rotate_left
      · intro w'
        go_simp
        with_reducible rfl
      rotate_left
      · simp only [Act.put, List.setIfInBounds_toArray, List.set_cons_zero, List.set_cons_succ, i64_w, i32_w]
        rfl
      refine done_ (by kernel_rfl) ?_
      go_wp2_with fail
      exact ⟨⟨i + 1, by simp, by omega, by rw [HS.out], ti_b HR (dN _ _)⟩, by simp [intOf]; omega⟩
    · have p1 : decide ((i : Int) < (T.no : Int)) = false := decide_eq_false (by omega)
      obtain rfl : i = T.no := by omega
      have c9 := (toCells HR.out.blk).2.2.2.2.2.2.2.2.2.1
      go_wp2_with fail
      go_loopw [3, 5] (fun v3 v5 wr => RDRel T A cO B cD g1 w0 v3 v5 wr) (fun _ v _ => T.nd - (intOf v).toNat)
      case atStart => exact ⟨0, rfl, by omega, rfl, HR⟩
      case round =>
        obtain ⟨k, rfl, hk, rfl, HR2⟩ := hrel
        have c10 := (toCells HR2.out.blk).2.2.2.2.2.2.2.2.2.2
        clear c9 p1
        by_cases hlt2 : k < T.nd
        · have p1 : decide ((k : Int) < (T.nd : Int)) = true := decide_eq_true (by omega)
          obtain ⟨ad, rfl, o0⟩ := HR2.out.drops k hlt2
          have lx := itoa_lenI (HI.out.h k hlt2)
          have DX := Aside0.mk (fun w => dec_I (HI.out.h k hlt2) w)
          have HS := Aside0.mk (show drS T (k + 1) = drS T k ++ ([32, 100, 32] ++ Lib.itoa (T.h k)) from rfl)
          have ll := HLD.out k (by omega)
          obtain ⟨x, hx⟩ : ∃ x, x = T.h k := ⟨_, rfl⟩
          rw [← hx] at o0 lx DX HS
          obtain ⟨X, hX⟩ : ∃ X, X = Lib.itoa x := ⟨_, rfl⟩
          obtain ⟨Z, hZ⟩ : ∃ X, X = drS T k := ⟨_, rfl⟩
          rw [← hX] at lx DX HS
          rw [← hZ] at ll HS
          rw [← hZ]
          have b1 := add_run [32, 100, 32] X (by simp; omega)
          have b4 := add_run Z ([32, 100, 32] ++ X) (by simp; omega)
          obtain ⟨S4, hS4⟩ : ∃ S, S = Z ++ ([32, 100, 32] ++ X) := ⟨_, rfl⟩
          rw [← hS4] at b4 HS
          obtain ⟨S1, hS1⟩ : ∃ S, S = [32, 100, 32] ++ X := ⟨_, rfl⟩
          rw [← hS1] at b1 b4
          have w5 : IntKind.i64.wrap ((k : Int) + 1) = (k : Int) + 1 := wrap_small _ (by omega) (by omega)
          clear hS1 hS4 hX hZ hx lx ll HLO HLD
          go_wp2_with fail
          refine (DX.out _).mono ?_
          rintro e w3 ⟨rfl, m, rfl⟩
          go_wp2_with fail
          exact ⟨⟨k + 1, by simp, by omega, by rw [HS.out], ti_b HR2 (dN _ m)⟩, by simp [intOf]; omega⟩
        · have p1 : decide ((k : Int) < (T.nd : Int)) = false := decide_eq_false (by omega)
          obtain rfl : k = T.nd := by omega
          go_wp2_with fail
          go_ret
          exact ⟨rfl, HR2.out.bel⟩
theorem rtell_tail_a (T : LTold) (A : Option Addr) (cO : Nat) (B : Option Addr) (cD : Nat) (g1 : Nat) (L : List UInt8) (hL : nineS T = L) (w0 : World) (hI : ToI T) (hO : T.no ≤ cO) (hcO : cO ≤ maxLen) (hD : T.nd ≤ cD) (hcD : cD ≤ maxLen) (rest : Code) (hr : tl1 (tl1 (Tryd.f14.body.getD .skip)) = rest) (a : Act) (ha : a = rtellF T A cO B cD g1 L (fun i => a.tmps.getD i undef)) (w : World) (HT : Aside0 (TellIn T A cO B cD g1 w0 w)) :
    rest.wp Tryd.prog (bodyPost Tryd.prog Tryd.f14 (TellPost T w0)) a w := by
  rw [ha]
  exact rtell_tail T A cO B cD g1 L hL w0 hI hO hcO hD hcD rest hr _ w HT
set_option maxHeartbeats 4000000 in
set_option maxRecDepth 100000 in
theorem rtell_any (T : LTold) (A : Option Addr) (cO : Nat) (B : Option Addr) (cD : Nat) (w : World) (hI : ToI T) (hO : T.no ≤ cO) (hcO : cO ≤ maxLen) (hD : T.nd ≤ cD) (hcD : cD ≤ maxLen) (hA : IntsAt w A (T.no * 7) T.f) (hB : IntsAt w B T.nd T.h) : Calls Tryd.prog 14 #[.agg (toC T A cO B cD)] w (TellPost T w) := by
  have HI := Aside0.mk hI
  have D0 := Aside0.mk (fun w => dec_I (hI.n T.a0 (by simp [nineN])) w)
  have D1 := Aside0.mk (fun w => dec_I (hI.n T.a1 (by simp [nineN])) w)
  have D2 := Aside0.mk (fun w => dec_I (hI.n T.a2 (by simp [nineN])) w)
  have D3 := Aside0.mk (fun w => dec_I (hI.n T.a3 (by simp [nineN])) w)
  have D4 := Aside0.mk (fun w => dec_I (hI.n T.a4 (by simp [nineN])) w)
  have D5 := Aside0.mk (fun w => dec_I (hI.n T.a5 (by simp [nineN])) w)
  have D6 := Aside0.mk (fun w => dec_I (hI.n T.a6 (by simp [nineN])) w)
  have D7 := Aside0.mk (fun w => dec_I (hI.n T.a7 (by simp [nineN])) w)
  have D8 := Aside0.mk (fun w => dec_I (hI.n T.a8 (by simp [nineN])) w)
  clear hI
  obtain ⟨N9, hN9⟩ : ∃ N, N = nineS T := ⟨_, rfl⟩
  have HN9 := Aside0.mk hN9.symm
  unfold nineS at hN9
  obtain ⟨A0, hA0⟩ : ∃ A, A = Lib.itoa T.a0 := ⟨_, rfl⟩
  have l0 := itoa_lenI (HI.out.n T.a0 (by simp [nineN]))
  rw [← hA0] at hN9 D0 l0
  obtain ⟨A1, hA1⟩ : ∃ A, A = Lib.itoa T.a1 := ⟨_, rfl⟩
  have l1 := itoa_lenI (HI.out.n T.a1 (by simp [nineN]))
  rw [← hA1] at hN9 D1 l1
  obtain ⟨A2, hA2⟩ : ∃ A, A = Lib.itoa T.a2 := ⟨_, rfl⟩
  have l2 := itoa_lenI (HI.out.n T.a2 (by simp [nineN]))
  rw [← hA2] at hN9 D2 l2
  obtain ⟨A3, hA3⟩ : ∃ A, A = Lib.itoa T.a3 := ⟨_, rfl⟩
  have l3 := itoa_lenI (HI.out.n T.a3 (by simp [nineN]))
  rw [← hA3] at hN9 D3 l3
  obtain ⟨A4, hA4⟩ : ∃ A, A = Lib.itoa T.a4 := ⟨_, rfl⟩
  have l4 := itoa_lenI (HI.out.n T.a4 (by simp [nineN]))
  rw [← hA4] at hN9 D4 l4
  obtain ⟨A5, hA5⟩ : ∃ A, A = Lib.itoa T.a5 := ⟨_, rfl⟩
  have l5 := itoa_lenI (HI.out.n T.a5 (by simp [nineN]))
  rw [← hA5] at hN9 D5 l5
  obtain ⟨A6, hA6⟩ : ∃ A, A = Lib.itoa T.a6 := ⟨_, rfl⟩
  have l6 := itoa_lenI (HI.out.n T.a6 (by simp [nineN]))
  rw [← hA6] at hN9 D6 l6
  obtain ⟨A7, hA7⟩ : ∃ A, A = Lib.itoa T.a7 := ⟨_, rfl⟩
  have l7 := itoa_lenI (HI.out.n T.a7 (by simp [nineN]))
  rw [← hA7] at hN9 D7 l7
  obtain ⟨A8, hA8⟩ : ∃ A, A = Lib.itoa T.a8 := ⟨_, rfl⟩
  have l8 := itoa_lenI (HI.out.n T.a8 (by simp [nineN]))
  rw [← hA8] at hN9 D8 l8
  clear hA0 hA1 hA2 hA3 hA4 hA5 hA6 hA7 hA8
  have b1 := add_run (A0) [32] (by simp; omega)
  have b2 := add_run (A0 ++ [32]) A1 (by simp; omega)
  have b3 := add_run (A0 ++ [32] ++ A1) [32] (by simp; omega)
  have b4 := add_run (A0 ++ [32] ++ A1 ++ [32]) A2 (by simp; omega)
  have b5 := add_run (A0 ++ [32] ++ A1 ++ [32] ++ A2) [32] (by simp; omega)
  have b6 := add_run (A0 ++ [32] ++ A1 ++ [32] ++ A2 ++ [32]) A3 (by simp; omega)
  have b7 := add_run (A0 ++ [32] ++ A1 ++ [32] ++ A2 ++ [32] ++ A3) [32] (by simp; omega)
  have b8 := add_run (A0 ++ [32] ++ A1 ++ [32] ++ A2 ++ [32] ++ A3 ++ [32]) A4 (by simp; omega)
  have b9 := add_run (A0 ++ [32] ++ A1 ++ [32] ++ A2 ++ [32] ++ A3 ++ [32] ++ A4) [32] (by simp; omega)
  have b10 := add_run (A0 ++ [32] ++ A1 ++ [32] ++ A2 ++ [32] ++ A3 ++ [32] ++ A4 ++ [32]) A5 (by simp; omega)
  have b11 := add_run (A0 ++ [32] ++ A1 ++ [32] ++ A2 ++ [32] ++ A3 ++ [32] ++ A4 ++ [32] ++ A5) [32] (by simp; omega)
  have b12 := add_run (A0 ++ [32] ++ A1 ++ [32] ++ A2 ++ [32] ++ A3 ++ [32] ++ A4 ++ [32] ++ A5 ++ [32]) A6 (by simp; omega)
  have b13 := add_run (A0 ++ [32] ++ A1 ++ [32] ++ A2 ++ [32] ++ A3 ++ [32] ++ A4 ++ [32] ++ A5 ++ [32] ++ A6) [32] (by simp; omega)
  have b14 := add_run (A0 ++ [32] ++ A1 ++ [32] ++ A2 ++ [32] ++ A3 ++ [32] ++ A4 ++ [32] ++ A5 ++ [32] ++ A6 ++ [32]) A7 (by simp; omega)
  have b15 := add_run (A0 ++ [32] ++ A1 ++ [32] ++ A2 ++ [32] ++ A3 ++ [32] ++ A4 ++ [32] ++ A5 ++ [32] ++ A6 ++ [32] ++ A7) [32] (by simp; omega)
  have b16 := add_run (A0 ++ [32] ++ A1 ++ [32] ++ A2 ++ [32] ++ A3 ++ [32] ++ A4 ++ [32] ++ A5 ++ [32] ++ A6 ++ [32] ++ A7 ++ [32]) A8 (by simp; omega)
  obtain ⟨S16, hS16⟩ : ∃ S, S = A0 ++ [32] ++ A1 ++ [32] ++ A2 ++ [32] ++ A3 ++ [32] ++ A4 ++ [32] ++ A5 ++ [32] ++ A6 ++ [32] ++ A7 ++ [32] ++ A8 := ⟨_, rfl⟩
  rw [← hS16] at b16 hN9
  obtain ⟨S15, hS15⟩ : ∃ S, S = A0 ++ [32] ++ A1 ++ [32] ++ A2 ++ [32] ++ A3 ++ [32] ++ A4 ++ [32] ++ A5 ++ [32] ++ A6 ++ [32] ++ A7 ++ [32] := ⟨_, rfl⟩
  rw [← hS15] at b15 b16
  obtain ⟨S14, hS14⟩ : ∃ S, S = A0 ++ [32] ++ A1 ++ [32] ++ A2 ++ [32] ++ A3 ++ [32] ++ A4 ++ [32] ++ A5 ++ [32] ++ A6 ++ [32] ++ A7 := ⟨_, rfl⟩
  rw [← hS14] at b14 b15
  obtain ⟨S13, hS13⟩ : ∃ S, S = A0 ++ [32] ++ A1 ++ [32] ++ A2 ++ [32] ++ A3 ++ [32] ++ A4 ++ [32] ++ A5 ++ [32] ++ A6 ++ [32] := ⟨_, rfl⟩
  rw [← hS13] at b13 b14
  obtain ⟨S12, hS12⟩ : ∃ S, S = A0 ++ [32] ++ A1 ++ [32] ++ A2 ++ [32] ++ A3 ++ [32] ++ A4 ++ [32] ++ A5 ++ [32] ++ A6 := ⟨_, rfl⟩
  rw [← hS12] at b12 b13
  obtain ⟨S11, hS11⟩ : ∃ S, S = A0 ++ [32] ++ A1 ++ [32] ++ A2 ++ [32] ++ A3 ++ [32] ++ A4 ++ [32] ++ A5 ++ [32] := ⟨_, rfl⟩
  rw [← hS11] at b11 b12
  obtain ⟨S10, hS10⟩ : ∃ S, S = A0 ++ [32] ++ A1 ++ [32] ++ A2 ++ [32] ++ A3 ++ [32] ++ A4 ++ [32] ++ A5 := ⟨_, rfl⟩
  rw [← hS10] at b10 b11
  obtain ⟨S9, hS9⟩ : ∃ S, S = A0 ++ [32] ++ A1 ++ [32] ++ A2 ++ [32] ++ A3 ++ [32] ++ A4 ++ [32] := ⟨_, rfl⟩
  rw [← hS9] at b9 b10
  obtain ⟨S8, hS8⟩ : ∃ S, S = A0 ++ [32] ++ A1 ++ [32] ++ A2 ++ [32] ++ A3 ++ [32] ++ A4 := ⟨_, rfl⟩
  rw [← hS8] at b8 b9
  obtain ⟨S7, hS7⟩ : ∃ S, S = A0 ++ [32] ++ A1 ++ [32] ++ A2 ++ [32] ++ A3 ++ [32] := ⟨_, rfl⟩
  rw [← hS7] at b7 b8
  obtain ⟨S6, hS6⟩ : ∃ S, S = A0 ++ [32] ++ A1 ++ [32] ++ A2 ++ [32] ++ A3 := ⟨_, rfl⟩
  rw [← hS6] at b6 b7
  obtain ⟨S5, hS5⟩ : ∃ S, S = A0 ++ [32] ++ A1 ++ [32] ++ A2 ++ [32] := ⟨_, rfl⟩
  rw [← hS5] at b5 b6
  obtain ⟨S4, hS4⟩ : ∃ S, S = A0 ++ [32] ++ A1 ++ [32] ++ A2 := ⟨_, rfl⟩
  rw [← hS4] at b4 b5
  obtain ⟨S3, hS3⟩ : ∃ S, S = A0 ++ [32] ++ A1 ++ [32] := ⟨_, rfl⟩
  rw [← hS3] at b3 b4
  obtain ⟨S2, hS2⟩ : ∃ S, S = A0 ++ [32] ++ A1 := ⟨_, rfl⟩
  rw [← hS2] at b2 b3
  obtain ⟨S1, hS1⟩ : ∃ S, S = A0 ++ [32] := ⟨_, rfl⟩
  rw [← hS1] at b1 b2
  clear hS1 hS2 hS3 hS4 hS5 hS6 hS7 hS8 hS9 hS10 hS11 hS12 hS13 hS14 hS15 hS16 l0 l1 l2 l3 l4 l5 l6 l7 l8
  have HN := Aside0.mk hN9
  clear hN9
  go_enter Tryd.func14, Tryd.ntmps14
  unfold toC
  refine wp_seq_k (fun K1 h1 => ?_)
  have H1 := Aside0.mk h1
  clear h1
  go_wp2_with fail
  (try simp only [Exit.then])
  refine H1.out _ _ (wp_seq_k (fun K2 h2 => ?_))
  have H2 := Aside0.mk h2
  clear H1 h2
  obtain ⟨g1, hg1⟩ : ∃ g, g = w.heap.size := ⟨_, rfl⟩
  obtain ⟨W1, hW1⟩ : ∃ W1, W1 = w.alloc (.cells #[.int .i64 T.a0, .int .i64 T.a1, .int .i64 T.a2, .int .i64 T.a3, .int .i64 T.a4, .int .i64 T.a5, .int .i64 T.a6, .int .i64 T.a7, .int .i64 T.a8, .slice A T.no cO, .slice B T.nd cD] 43) := ⟨_, rfl⟩
  have HT : Aside0 (TellIn T A cO B cD g1 w W1) := by
    have hb : Below w.heap.size w W1 := by rw [hW1]; exact (Below.refl _ w).alloc (Nat.le_refl _) _
    exact ⟨by rw [hW1, hg1]; exact blk_new w _, hb, hA.below hb, hB.below hb⟩
  rw [← hg1, ← hW1]
  obtain ⟨c0, c1, c2, c3, c4, c5, c6, c7, c8, c9, c10⟩ := toCells HT.out.blk
  clear hg1 hW1 hA hB
  go_wp2_with fail
  refine start_ (n := 44) (S := fun w' => w'.cell? ⟨g1, 0, none⟩ = some (.int .i64 T.a0) ∧ w'.cell? ⟨g1, 1, none⟩ = some (.int .i64 T.a1) ∧ w'.cell? ⟨g1, 2, none⟩ = some (.int .i64 T.a2) ∧ w'.cell? ⟨g1, 3, none⟩ = some (.int .i64 T.a3) ∧ w'.cell? ⟨g1, 4, none⟩ = some (.int .i64 T.a4) ∧ w'.cell? ⟨g1, 5, none⟩ = some (.int .i64 T.a5) ∧ w'.cell? ⟨g1, 6, none⟩ = some (.int .i64 T.a6) ∧ w'.cell? ⟨g1, 7, none⟩ = some (.int .i64 T.a7) ∧ w'.cell? ⟨g1, 8, none⟩ = some (.int .i64 T.a8) ∧ Aside0 (TellIn T A cO B cD g1 w w')) (ds := []) #[false, false, false, false, false, false, false, false, false, false, false, false, false, false, false, false, false, false, false, false, false, false, false, false, false, false, false, false, false, false, false, false, false, false, false, false, false, false, false, false, false, false, false, false] (by kernel_rfl) rfl rfl ⟨c0, c1, c2, c3, c4, c5, c6, c7, c8, (ti_b HT (d1 _))⟩ (fun hHeld => ?_)
  refine pure_ (i := 0) (N := some 6) (v := ?_) (a' := ?_) #[true, false, false, false, false, false, false, false, false, false, false, false, false, false, false, false, false, false, false, false, false, false, false, false, false, false, false, false, false, false, false, false, false, false, false, false, false, false, false, false, false, false, false, false] rfl rfl (by kernel_rfl) (fun _ _ _ h => h) (Or.inl ⟨by rfl, ?_⟩) ?_ ?_
  rotate_left
  · intro w'
    go_simp
    with_reducible rfl
  rotate_left
  · simp only [Act.put, List.setIfInBounds_toArray, List.set_cons_zero, List.set_cons_succ, i64_w, i32_w]
    rfl
  refine pure_ (i := 4) (N := some 10) (v := ?_) (a' := ?_) #[true, false, false, false, true, false, false, false, false, false, false, false, false, false, false, false, false, false, false, false, false, false, false, false, false, false, false, false, false, false, false, false, false, false, false, false, false, false, false, false, false, false, false, false] rfl rfl (by kernel_rfl) (fun _ _ _ h => h) (Or.inl ⟨by rfl, ?_⟩) ?_ ?_
  rotate_left
  · intro w'
    go_simp
    with_reducible rfl
  rotate_left
  · simp only [Act.put, List.setIfInBounds_toArray, List.set_cons_zero, List.set_cons_succ, i64_w, i32_w]
    rfl
  refine pure_ (i := 9) (N := some 15) (v := ?_) (a' := ?_) #[true, false, false, false, true, false, false, false, false, true, false, false, false, false, false, false, false, false, false, false, false, false, false, false, false, false, false, false, false, false, false, false, false, false, false, false, false, false, false, false, false, false, false, false] rfl rfl (by kernel_rfl) (fun _ _ _ h => h) (Or.inl ⟨by rfl, ?_⟩) ?_ ?_
  rotate_left
  · intro w'
    go_simp
    with_reducible rfl
  rotate_left
  · simp only [Act.put, List.setIfInBounds_toArray, List.set_cons_zero, List.set_cons_succ, i64_w, i32_w]
    rfl
  refine pure_ (i := 14) (N := some 20) (v := ?_) (a' := ?_) #[true, false, false, false, true, false, false, false, false, true, false, false, false, false, true, false, false, false, false, false, false, false, false, false, false, false, false, false, false, false, false, false, false, false, false, false, false, false, false, false, false, false, false, false] rfl rfl (by kernel_rfl) (fun _ _ _ h => h) (Or.inl ⟨by rfl, ?_⟩) ?_ ?_
  rotate_left
  · intro w'
    go_simp
    with_reducible rfl
  rotate_left
  · simp only [Act.put, List.setIfInBounds_toArray, List.set_cons_zero, List.set_cons_succ, i64_w, i32_w]
    rfl
  refine pure_ (i := 19) (N := some 25) (v := ?_) (a' := ?_) #[true, false, false, false, true, false, false, false, false, true, false, false, false, false, true, false, false, false, false, true, false, false, false, false, false, false, false, false, false, false, false, false, false, false, false, false, false, false, false, false, false, false, false, false] rfl rfl (by kernel_rfl) (fun _ _ _ h => h) (Or.inl ⟨by rfl, ?_⟩) ?_ ?_
  rotate_left
  · intro w'
    go_simp
    with_reducible rfl
  rotate_left
  · simp only [Act.put, List.setIfInBounds_toArray, List.set_cons_zero, List.set_cons_succ, i64_w, i32_w]
    rfl
  refine pure_ (i := 24) (N := some 30) (v := ?_) (a' := ?_) #[true, false, false, false, true, false, false, false, false, true, false, false, false, false, true, false, false, false, false, true, false, false, false, false, true, false, false, false, false, false, false, false, false, false, false, false, false, false, false, false, false, false, false, false] rfl rfl (by kernel_rfl) (fun _ _ _ h => h) (Or.inl ⟨by rfl, ?_⟩) ?_ ?_
  rotate_left
  · intro w'
    go_simp
    with_reducible rfl
  rotate_left
  · simp only [Act.put, List.setIfInBounds_toArray, List.set_cons_zero, List.set_cons_succ, i64_w, i32_w]
    rfl
  refine pure_ (i := 29) (N := some 35) (v := ?_) (a' := ?_) #[true, false, false, false, true, false, false, false, false, true, false, false, false, false, true, false, false, false, false, true, false, false, false, false, true, false, false, false, false, true, false, false, false, false, false, false, false, false, false, false, false, false, false, false] rfl rfl (by kernel_rfl) (fun _ _ _ h => h) (Or.inl ⟨by rfl, ?_⟩) ?_ ?_
  rotate_left
  · intro w'
    go_simp
    with_reducible rfl
  rotate_left
  · simp only [Act.put, List.setIfInBounds_toArray, List.set_cons_zero, List.set_cons_succ, i64_w, i32_w]
    rfl
  refine pure_ (i := 34) (N := some 40) (v := ?_) (a' := ?_) #[true, false, false, false, true, false, false, false, false, true, false, false, false, false, true, false, false, false, false, true, false, false, false, false, true, false, false, false, false, true, false, false, false, false, true, false, false, false, false, false, false, false, false, false] rfl rfl (by kernel_rfl) (fun _ _ _ h => h) (Or.inl ⟨by rfl, ?_⟩) ?_ ?_
  rotate_left
  · intro w'
    go_simp
    with_reducible rfl
  rotate_left
  · simp only [Act.put, List.setIfInBounds_toArray, List.set_cons_zero, List.set_cons_succ, i64_w, i32_w]
    rfl
  refine pure_ (i := 39) (N := some 45) (v := ?_) (a' := ?_) #[true, false, false, false, true, false, false, false, false, true, false, false, false, false, true, false, false, false, false, true, false, false, false, false, true, false, false, false, false, true, false, false, false, false, true, false, false, false, false, true, false, false, false, false] rfl rfl (by kernel_rfl) (fun _ _ _ h => h) (Or.inl ⟨by rfl, ?_⟩) ?_ ?_
  rotate_left
  · intro w'
    go_simp
    with_reducible rfl
  rotate_left
  · simp only [Act.put, List.setIfInBounds_toArray, List.set_cons_zero, List.set_cons_succ, i64_w, i32_w]
    rfl
  refine take_ (i := 1) (N := some 7) (v := ?_) (a' := ?_) #[true, true, false, false, true, false, false, false, false, true, false, false, false, false, true, false, false, false, false, true, false, false, false, false, true, false, false, false, false, true, false, false, false, false, true, false, false, false, false, true, false, false, false, false] rfl rfl (by kernel_rfl) (fun _ _ _ h => h) (Or.inl ⟨by rfl, ?_⟩) hHeld ?_ ?_
  rotate_left
  · rintro w' ⟨s0, s1, s2, s3, s4, s5, s6, s7, s8, s9⟩
    go_simp
    with_reducible rfl
  rotate_left
  · simp only [Act.put, List.setIfInBounds_toArray, List.set_cons_zero, List.set_cons_succ, i64_w, i32_w]
    rfl
  refine take_ (i := 5) (N := some 11) (v := ?_) (a' := ?_) #[true, true, false, false, true, true, false, false, false, true, false, false, false, false, true, false, false, false, false, true, false, false, false, false, true, false, false, false, false, true, false, false, false, false, true, false, false, false, false, true, false, false, false, false] rfl rfl (by kernel_rfl) (fun _ _ _ h => h) (Or.inl ⟨by rfl, ?_⟩) hHeld ?_ ?_
  rotate_left
  · rintro w' ⟨s0, s1, s2, s3, s4, s5, s6, s7, s8, s9⟩
    go_simp
    with_reducible rfl
  rotate_left
  · simp only [Act.put, List.setIfInBounds_toArray, List.set_cons_zero, List.set_cons_succ, i64_w, i32_w]
    rfl
  refine take_ (i := 10) (N := some 16) (v := ?_) (a' := ?_) #[true, true, false, false, true, true, false, false, false, true, true, false, false, false, true, false, false, false, false, true, false, false, false, false, true, false, false, false, false, true, false, false, false, false, true, false, false, false, false, true, false, false, false, false] rfl rfl (by kernel_rfl) (fun _ _ _ h => h) (Or.inl ⟨by rfl, ?_⟩) hHeld ?_ ?_
  rotate_left
  · rintro w' ⟨s0, s1, s2, s3, s4, s5, s6, s7, s8, s9⟩
    go_simp
    with_reducible rfl
  rotate_left
  · simp only [Act.put, List.setIfInBounds_toArray, List.set_cons_zero, List.set_cons_succ, i64_w, i32_w]
    rfl
  refine take_ (i := 15) (N := some 21) (v := ?_) (a' := ?_) #[true, true, false, false, true, true, false, false, false, true, true, false, false, false, true, true, false, false, false, true, false, false, false, false, true, false, false, false, false, true, false, false, false, false, true, false, false, false, false, true, false, false, false, false] rfl rfl (by kernel_rfl) (fun _ _ _ h => h) (Or.inl ⟨by rfl, ?_⟩) hHeld ?_ ?_
  rotate_left
  · rintro w' ⟨s0, s1, s2, s3, s4, s5, s6, s7, s8, s9⟩
    go_simp
    with_reducible rfl
  rotate_left
  · simp only [Act.put, List.setIfInBounds_toArray, List.set_cons_zero, List.set_cons_succ, i64_w, i32_w]
    rfl
  refine take_ (i := 20) (N := some 26) (v := ?_) (a' := ?_) #[true, true, false, false, true, true, false, false, false, true, true, false, false, false, true, true, false, false, false, true, true, false, false, false, true, false, false, false, false, true, false, false, false, false, true, false, false, false, false, true, false, false, false, false] rfl rfl (by kernel_rfl) (fun _ _ _ h => h) (Or.inl ⟨by rfl, ?_⟩) hHeld ?_ ?_
  rotate_left
  · rintro w' ⟨s0, s1, s2, s3, s4, s5, s6, s7, s8, s9⟩
    go_simp
    with_reducible rfl
  rotate_left
  · simp only [Act.put, List.setIfInBounds_toArray, List.set_cons_zero, List.set_cons_succ, i64_w, i32_w]
    rfl
  refine take_ (i := 25) (N := some 31) (v := ?_) (a' := ?_) #[true, true, false, false, true, true, false, false, false, true, true, false, false, false, true, true, false, false, false, true, true, false, false, false, true, true, false, false, false, true, false, false, false, false, true, false, false, false, false, true, false, false, false, false] rfl rfl (by kernel_rfl) (fun _ _ _ h => h) (Or.inl ⟨by rfl, ?_⟩) hHeld ?_ ?_
  rotate_left
  · rintro w' ⟨s0, s1, s2, s3, s4, s5, s6, s7, s8, s9⟩
    go_simp
    with_reducible rfl
  rotate_left
  · simp only [Act.put, List.setIfInBounds_toArray, List.set_cons_zero, List.set_cons_succ, i64_w, i32_w]
    rfl
  refine take_ (i := 30) (N := some 36) (v := ?_) (a' := ?_) #[true, true, false, false, true, true, false, false, false, true, true, false, false, false, true, true, false, false, false, true, true, false, false, false, true, true, false, false, false, true, true, false, false, false, true, false, false, false, false, true, false, false, false, false] rfl rfl (by kernel_rfl) (fun _ _ _ h => h) (Or.inl ⟨by rfl, ?_⟩) hHeld ?_ ?_
  rotate_left
  · rintro w' ⟨s0, s1, s2, s3, s4, s5, s6, s7, s8, s9⟩
    go_simp
    with_reducible rfl
  rotate_left
  · simp only [Act.put, List.setIfInBounds_toArray, List.set_cons_zero, List.set_cons_succ, i64_w, i32_w]
    rfl
  refine take_ (i := 35) (N := some 41) (v := ?_) (a' := ?_) #[true, true, false, false, true, true, false, false, false, true, true, false, false, false, true, true, false, false, false, true, true, false, false, false, true, true, false, false, false, true, true, false, false, false, true, true, false, false, false, true, false, false, false, false] rfl rfl (by kernel_rfl) (fun _ _ _ h => h) (Or.inl ⟨by rfl, ?_⟩) hHeld ?_ ?_
  rotate_left
  · rintro w' ⟨s0, s1, s2, s3, s4, s5, s6, s7, s8, s9⟩
    go_simp
    with_reducible rfl
  rotate_left
  · simp only [Act.put, List.setIfInBounds_toArray, List.set_cons_zero, List.set_cons_succ, i64_w, i32_w]
    rfl
  refine take_ (i := 40) (N := some 46) (v := ?_) (a' := ?_) #[true, true, false, false, true, true, false, false, false, true, true, false, false, false, true, true, false, false, false, true, true, false, false, false, true, true, false, false, false, true, true, false, false, false, true, true, false, false, false, true, true, false, false, false] rfl rfl (by kernel_rfl) (fun _ _ _ h => h) (Or.inl ⟨by rfl, ?_⟩) hHeld ?_ ?_
  rotate_left
  · rintro w' ⟨s0, s1, s2, s3, s4, s5, s6, s7, s8, s9⟩
    go_simp
    with_reducible rfl
  rotate_left
  · simp only [Act.put, List.setIfInBounds_toArray, List.set_cons_zero, List.set_cons_succ, i64_w, i32_w]
    rfl
  refine one_ (i := 2) (N := some 8) #[true, true, true, false, true, true, false, false, false, true, true, false, false, false, true, true, false, false, false, true, true, false, false, false, true, true, false, false, false, true, true, false, false, false, true, true, false, false, false, true, true, false, false, false] rfl rfl (by kernel_rfl) (by decide) (fun K hK => ?_)
  refine goes_ Tryd.func25 (by kernel_rfl) rfl #[.int .i64 T.a0] (by rfl) rfl rfl (by simp only [List.map_toArray, List.map_cons, List.map_nil]; rfl) ?_
  with_reducible refine (D0.out _).mono ?_
  rintro e w3 ⟨rfl, m, rfl⟩
  refine ⟨_, rfl, ?_⟩
  refine hK.out _ _ ⟨(cell_b hHeld.1 (dN _ m)), (cell_b hHeld.2.1 (dN _ m)), (cell_b hHeld.2.2.1 (dN _ m)), (cell_b hHeld.2.2.2.1 (dN _ m)), (cell_b hHeld.2.2.2.2.1 (dN _ m)), (cell_b hHeld.2.2.2.2.2.1 (dN _ m)), (cell_b hHeld.2.2.2.2.2.2.1 (dN _ m)), (cell_b hHeld.2.2.2.2.2.2.2.1 (dN _ m)), (cell_b hHeld.2.2.2.2.2.2.2.2.1 (dN _ m)), (ti_b hHeld.2.2.2.2.2.2.2.2.2 (dN _ m))⟩ (fun hHeld => ?_)
  clear hK K
  refine norm_ (a' := ?_) ?_ ?_
  rotate_left
  · show Act.put _ (some 8) _ = _
    simp only [Act.put, List.setIfInBounds_toArray, List.set_cons_zero, List.set_cons_succ, i64_w, i32_w]
    rfl
  refine pure_ (i := 3) (N := some 9) (v := ?_) (a' := ?_) #[true, true, true, true, true, true, false, false, false, true, true, false, false, false, true, true, false, false, false, true, true, false, false, false, true, true, false, false, false, true, true, false, false, false, true, true, false, false, false, true, true, false, false, false] rfl rfl (by kernel_rfl) (fun _ _ _ h => h) (Or.inl ⟨by rfl, ?_⟩) ?_ ?_
  rotate_left
  · intro w'
    go_simp
    with_reducible rfl
  rotate_left
  · simp only [Act.put, List.setIfInBounds_toArray, List.set_cons_zero, List.set_cons_succ, i64_w, i32_w]
    rfl
  refine one_ (i := 6) (N := some 12) #[true, true, true, true, true, true, true, false, false, true, true, false, false, false, true, true, false, false, false, true, true, false, false, false, true, true, false, false, false, true, true, false, false, false, true, true, false, false, false, true, true, false, false, false] rfl rfl (by kernel_rfl) (by decide) (fun K hK => ?_)
  refine goes_ Tryd.func25 (by kernel_rfl) rfl #[.int .i64 T.a1] (by rfl) rfl rfl (by simp only [List.map_toArray, List.map_cons, List.map_nil]; rfl) ?_
  with_reducible refine (D1.out _).mono ?_
  rintro e w3 ⟨rfl, m, rfl⟩
  refine ⟨_, rfl, ?_⟩
  refine hK.out _ _ ⟨(cell_b hHeld.1 (dN _ m)), (cell_b hHeld.2.1 (dN _ m)), (cell_b hHeld.2.2.1 (dN _ m)), (cell_b hHeld.2.2.2.1 (dN _ m)), (cell_b hHeld.2.2.2.2.1 (dN _ m)), (cell_b hHeld.2.2.2.2.2.1 (dN _ m)), (cell_b hHeld.2.2.2.2.2.2.1 (dN _ m)), (cell_b hHeld.2.2.2.2.2.2.2.1 (dN _ m)), (cell_b hHeld.2.2.2.2.2.2.2.2.1 (dN _ m)), (ti_b hHeld.2.2.2.2.2.2.2.2.2 (dN _ m))⟩ (fun hHeld => ?_)
  clear hK K
  refine norm_ (a' := ?_) ?_ ?_
  rotate_left
  · show Act.put _ (some 12) _ = _
    simp only [Act.put, List.setIfInBounds_toArray, List.set_cons_zero, List.set_cons_succ, i64_w, i32_w]
    rfl
  refine pure_ (i := 7) (N := some 13) (v := ?_) (a' := ?_) #[true, true, true, true, true, true, true, true, false, true, true, false, false, false, true, true, false, false, false, true, true, false, false, false, true, true, false, false, false, true, true, false, false, false, true, true, false, false, false, true, true, false, false, false] rfl rfl (by kernel_rfl) (fun _ _ _ h => h) (Or.inl ⟨by rfl, ?_⟩) ?_ ?_
  rotate_left
  · intro w'
    go_simp
    with_reducible rfl
  rotate_left
  · simp only [Act.put, List.setIfInBounds_toArray, List.set_cons_zero, List.set_cons_succ, i64_w, i32_w]
    rfl
  refine pure_ (i := 8) (N := some 14) (v := ?_) (a' := ?_) #[true, true, true, true, true, true, true, true, true, true, true, false, false, false, true, true, false, false, false, true, true, false, false, false, true, true, false, false, false, true, true, false, false, false, true, true, false, false, false, true, true, false, false, false] rfl rfl (by kernel_rfl) (fun _ _ _ h => h) (Or.inl ⟨by rfl, ?_⟩) ?_ ?_
  rotate_left
  · intro w'
    go_simp
    with_reducible rfl
  rotate_left
  · simp only [Act.put, List.setIfInBounds_toArray, List.set_cons_zero, List.set_cons_succ, i64_w, i32_w]
    rfl
  refine one_ (i := 11) (N := some 17) #[true, true, true, true, true, true, true, true, true, true, true, true, false, false, true, true, false, false, false, true, true, false, false, false, true, true, false, false, false, true, true, false, false, false, true, true, false, false, false, true, true, false, false, false] rfl rfl (by kernel_rfl) (by decide) (fun K hK => ?_)
  refine goes_ Tryd.func25 (by kernel_rfl) rfl #[.int .i64 T.a2] (by rfl) rfl rfl (by simp only [List.map_toArray, List.map_cons, List.map_nil]; rfl) ?_
  with_reducible refine (D2.out _).mono ?_
  rintro e w3 ⟨rfl, m, rfl⟩
  refine ⟨_, rfl, ?_⟩
  refine hK.out _ _ ⟨(cell_b hHeld.1 (dN _ m)), (cell_b hHeld.2.1 (dN _ m)), (cell_b hHeld.2.2.1 (dN _ m)), (cell_b hHeld.2.2.2.1 (dN _ m)), (cell_b hHeld.2.2.2.2.1 (dN _ m)), (cell_b hHeld.2.2.2.2.2.1 (dN _ m)), (cell_b hHeld.2.2.2.2.2.2.1 (dN _ m)), (cell_b hHeld.2.2.2.2.2.2.2.1 (dN _ m)), (cell_b hHeld.2.2.2.2.2.2.2.2.1 (dN _ m)), (ti_b hHeld.2.2.2.2.2.2.2.2.2 (dN _ m))⟩ (fun hHeld => ?_)
  clear hK K
  refine norm_ (a' := ?_) ?_ ?_
  rotate_left
  · show Act.put _ (some 17) _ = _
    simp only [Act.put, List.setIfInBounds_toArray, List.set_cons_zero, List.set_cons_succ, i64_w, i32_w]
    rfl
  refine pure_ (i := 12) (N := some 18) (v := ?_) (a' := ?_) #[true, true, true, true, true, true, true, true, true, true, true, true, true, false, true, true, false, false, false, true, true, false, false, false, true, true, false, false, false, true, true, false, false, false, true, true, false, false, false, true, true, false, false, false] rfl rfl (by kernel_rfl) (fun _ _ _ h => h) (Or.inl ⟨by rfl, ?_⟩) ?_ ?_
  rotate_left
  · intro w'
    go_simp
    with_reducible rfl
  rotate_left
  · simp only [Act.put, List.setIfInBounds_toArray, List.set_cons_zero, List.set_cons_succ, i64_w, i32_w]
    rfl
  refine pure_ (i := 13) (N := some 19) (v := ?_) (a' := ?_) #[true, true, true, true, true, true, true, true, true, true, true, true, true, true, true, true, false, false, false, true, true, false, false, false, true, true, false, false, false, true, true, false, false, false, true, true, false, false, false, true, true, false, false, false] rfl rfl (by kernel_rfl) (fun _ _ _ h => h) (Or.inl ⟨by rfl, ?_⟩) ?_ ?_
  rotate_left
  · intro w'
    go_simp
    with_reducible rfl
  rotate_left
  · simp only [Act.put, List.setIfInBounds_toArray, List.set_cons_zero, List.set_cons_succ, i64_w, i32_w]
    rfl
  refine one_ (i := 16) (N := some 22) #[true, true, true, true, true, true, true, true, true, true, true, true, true, true, true, true, true, false, false, true, true, false, false, false, true, true, false, false, false, true, true, false, false, false, true, true, false, false, false, true, true, false, false, false] rfl rfl (by kernel_rfl) (by decide) (fun K hK => ?_)
  refine goes_ Tryd.func25 (by kernel_rfl) rfl #[.int .i64 T.a3] (by rfl) rfl rfl (by simp only [List.map_toArray, List.map_cons, List.map_nil]; rfl) ?_
  with_reducible refine (D3.out _).mono ?_
  rintro e w3 ⟨rfl, m, rfl⟩
  refine ⟨_, rfl, ?_⟩
  refine hK.out _ _ ⟨(cell_b hHeld.1 (dN _ m)), (cell_b hHeld.2.1 (dN _ m)), (cell_b hHeld.2.2.1 (dN _ m)), (cell_b hHeld.2.2.2.1 (dN _ m)), (cell_b hHeld.2.2.2.2.1 (dN _ m)), (cell_b hHeld.2.2.2.2.2.1 (dN _ m)), (cell_b hHeld.2.2.2.2.2.2.1 (dN _ m)), (cell_b hHeld.2.2.2.2.2.2.2.1 (dN _ m)), (cell_b hHeld.2.2.2.2.2.2.2.2.1 (dN _ m)), (ti_b hHeld.2.2.2.2.2.2.2.2.2 (dN _ m))⟩ (fun hHeld => ?_)
  clear hK K
  refine norm_ (a' := ?_) ?_ ?_
  rotate_left
  · show Act.put _ (some 22) _ = _
    simp only [Act.put, List.setIfInBounds_toArray, List.set_cons_zero, List.set_cons_succ, i64_w, i32_w]
    rfl
  refine pure_ (i := 17) (N := some 23) (v := ?_) (a' := ?_) #[true, true, true, true, true, true, true, true, true, true, true, true, true, true, true, true, true, true, false, true, true, false, false, false, true, true, false, false, false, true, true, false, false, false, true, true, false, false, false, true, true, false, false, false] rfl rfl (by kernel_rfl) (fun _ _ _ h => h) (Or.inl ⟨by rfl, ?_⟩) ?_ ?_
  rotate_left
  · intro w'
    go_simp
    with_reducible rfl
  rotate_left
  · simp only [Act.put, List.setIfInBounds_toArray, List.set_cons_zero, List.set_cons_succ, i64_w, i32_w]
    rfl
  refine pure_ (i := 18) (N := some 24) (v := ?_) (a' := ?_) #[true, true, true, true, true, true, true, true, true, true, true, true, true, true, true, true, true, true, true, true, true, false, false, false, true, true, false, false, false, true, true, false, false, false, true, true, false, false, false, true, true, false, false, false] rfl rfl (by kernel_rfl) (fun _ _ _ h => h) (Or.inl ⟨by rfl, ?_⟩) ?_ ?_
  rotate_left
  · intro w'
    go_simp
    with_reducible rfl
  rotate_left
  · simp only [Act.put, List.setIfInBounds_toArray, List.set_cons_zero, List.set_cons_succ, i64_w, i32_w]
    rfl
  refine one_ (i := 21) (N := some 27) #[true, true, true, true, true, true, true, true, true, true, true, true, true, true, true, true, true, true, true, true, true, true, false, false, true, true, false, false, false, true, true, false, false, false, true, true, false, false, false, true, true, false, false, false] rfl rfl (by kernel_rfl) (by decide) (fun K hK => ?_)
  refine goes_ Tryd.func25 (by kernel_rfl) rfl #[.int .i64 T.a4] (by rfl) rfl rfl (by simp only [List.map_toArray, List.map_cons, List.map_nil]; rfl) ?_
  with_reducible refine (D4.out _).mono ?_
  rintro e w3 ⟨rfl, m, rfl⟩
  refine ⟨_, rfl, ?_⟩
  refine hK.out _ _ ⟨(cell_b hHeld.1 (dN _ m)), (cell_b hHeld.2.1 (dN _ m)), (cell_b hHeld.2.2.1 (dN _ m)), (cell_b hHeld.2.2.2.1 (dN _ m)), (cell_b hHeld.2.2.2.2.1 (dN _ m)), (cell_b hHeld.2.2.2.2.2.1 (dN _ m)), (cell_b hHeld.2.2.2.2.2.2.1 (dN _ m)), (cell_b hHeld.2.2.2.2.2.2.2.1 (dN _ m)), (cell_b hHeld.2.2.2.2.2.2.2.2.1 (dN _ m)), (ti_b hHeld.2.2.2.2.2.2.2.2.2 (dN _ m))⟩ (fun hHeld => ?_)
  clear hK K
  refine norm_ (a' := ?_) ?_ ?_
  rotate_left
  · show Act.put _ (some 27) _ = _
    simp only [Act.put, List.setIfInBounds_toArray, List.set_cons_zero, List.set_cons_succ, i64_w, i32_w]
    rfl
  refine pure_ (i := 22) (N := some 28) (v := ?_) (a' := ?_) #[true, true, true, true, true, true, true, true, true, true, true, true, true, true, true, true, true, true, true, true, true, true, true, false, true, true, false, false, false, true, true, false, false, false, true, true, false, false, false, true, true, false, false, false] rfl rfl (by kernel_rfl) (fun _ _ _ h => h) (Or.inl ⟨by rfl, ?_⟩) ?_ ?_
  rotate_left
  · intro w'
    go_simp
    with_reducible rfl
  rotate_left
  · simp only [Act.put, List.setIfInBounds_toArray, List.set_cons_zero, List.set_cons_succ, i64_w, i32_w]
    rfl
  refine pure_ (i := 23) (N := some 29) (v := ?_) (a' := ?_) #[true, true, true, true, true, true, true, true, true, true, true, true, true, true, true, true, true, true, true, true, true, true, true, true, true, true, false, false, false, true, true, false, false, false, true, true, false, false, false, true, true, false, false, false] rfl rfl (by kernel_rfl) (fun _ _ _ h => h) (Or.inl ⟨by rfl, ?_⟩) ?_ ?_
  rotate_left
  · intro w'
    go_simp
    with_reducible rfl
  rotate_left
  · simp only [Act.put, List.setIfInBounds_toArray, List.set_cons_zero, List.set_cons_succ, i64_w, i32_w]
    rfl
  refine one_ (i := 26) (N := some 32) #[true, true, true, true, true, true, true, true, true, true, true, true, true, true, true, true, true, true, true, true, true, true, true, true, true, true, true, false, false, true, true, false, false, false, true, true, false, false, false, true, true, false, false, false] rfl rfl (by kernel_rfl) (by decide) (fun K hK => ?_)
  refine goes_ Tryd.func25 (by kernel_rfl) rfl #[.int .i64 T.a5] (by rfl) rfl rfl (by simp only [List.map_toArray, List.map_cons, List.map_nil]; rfl) ?_
  with_reducible refine (D5.out _).mono ?_
  rintro e w3 ⟨rfl, m, rfl⟩
  refine ⟨_, rfl, ?_⟩
  refine hK.out _ _ ⟨(cell_b hHeld.1 (dN _ m)), (cell_b hHeld.2.1 (dN _ m)), (cell_b hHeld.2.2.1 (dN _ m)), (cell_b hHeld.2.2.2.1 (dN _ m)), (cell_b hHeld.2.2.2.2.1 (dN _ m)), (cell_b hHeld.2.2.2.2.2.1 (dN _ m)), (cell_b hHeld.2.2.2.2.2.2.1 (dN _ m)), (cell_b hHeld.2.2.2.2.2.2.2.1 (dN _ m)), (cell_b hHeld.2.2.2.2.2.2.2.2.1 (dN _ m)), (ti_b hHeld.2.2.2.2.2.2.2.2.2 (dN _ m))⟩ (fun hHeld => ?_)
  clear hK K
  refine norm_ (a' := ?_) ?_ ?_
  rotate_left
  · show Act.put _ (some 32) _ = _
    simp only [Act.put, List.setIfInBounds_toArray, List.set_cons_zero, List.set_cons_succ, i64_w, i32_w]
    rfl
  refine pure_ (i := 27) (N := some 33) (v := ?_) (a' := ?_) #[true, true, true, true, true, true, true, true, true, true, true, true, true, true, true, true, true, true, true, true, true, true, true, true, true, true, true, true, false, true, true, false, false, false, true, true, false, false, false, true, true, false, false, false] rfl rfl (by kernel_rfl) (fun _ _ _ h => h) (Or.inl ⟨by rfl, ?_⟩) ?_ ?_
  rotate_left
  · intro w'
    go_simp
    with_reducible rfl
  rotate_left
  · simp only [Act.put, List.setIfInBounds_toArray, List.set_cons_zero, List.set_cons_succ, i64_w, i32_w]
    rfl
  refine pure_ (i := 28) (N := some 34) (v := ?_) (a' := ?_) #[true, true, true, true, true, true, true, true, true, true, true, true, true, true, true, true, true, true, true, true, true, true, true, true, true, true, true, true, true, true, true, false, false, false, true, true, false, false, false, true, true, false, false, false] rfl rfl (by kernel_rfl) (fun _ _ _ h => h) (Or.inl ⟨by rfl, ?_⟩) ?_ ?_
  rotate_left
  · intro w'
    go_simp
    with_reducible rfl
  rotate_left
  · simp only [Act.put, List.setIfInBounds_toArray, List.set_cons_zero, List.set_cons_succ, i64_w, i32_w]
    rfl
  refine one_ (i := 31) (N := some 37) #[true, true, true, true, true, true, true, true, true, true, true, true, true, true, true, true, true, true, true, true, true, true, true, true, true, true, true, true, true, true, true, true, false, false, true, true, false, false, false, true, true, false, false, false] rfl rfl (by kernel_rfl) (by decide) (fun K hK => ?_)
  refine goes_ Tryd.func25 (by kernel_rfl) rfl #[.int .i64 T.a6] (by rfl) rfl rfl (by simp only [List.map_toArray, List.map_cons, List.map_nil]; rfl) ?_
  with_reducible refine (D6.out _).mono ?_
  rintro e w3 ⟨rfl, m, rfl⟩
  refine ⟨_, rfl, ?_⟩
  refine hK.out _ _ ⟨(cell_b hHeld.1 (dN _ m)), (cell_b hHeld.2.1 (dN _ m)), (cell_b hHeld.2.2.1 (dN _ m)), (cell_b hHeld.2.2.2.1 (dN _ m)), (cell_b hHeld.2.2.2.2.1 (dN _ m)), (cell_b hHeld.2.2.2.2.2.1 (dN _ m)), (cell_b hHeld.2.2.2.2.2.2.1 (dN _ m)), (cell_b hHeld.2.2.2.2.2.2.2.1 (dN _ m)), (cell_b hHeld.2.2.2.2.2.2.2.2.1 (dN _ m)), (ti_b hHeld.2.2.2.2.2.2.2.2.2 (dN _ m))⟩ (fun hHeld => ?_)
  clear hK K
  refine norm_ (a' := ?_) ?_ ?_
  rotate_left
  · show Act.put _ (some 37) _ = _
    simp only [Act.put, List.setIfInBounds_toArray, List.set_cons_zero, List.set_cons_succ, i64_w, i32_w]
    rfl
  refine pure_ (i := 32) (N := some 38) (v := ?_) (a' := ?_) #[true, true, true, true, true, true, true, true, true, true, true, true, true, true, true, true, true, true, true, true, true, true, true, true, true, true, true, true, true, true, true, true, true, false, true, true, false, false, false, true, true, false, false, false] rfl rfl (by kernel_rfl) (fun _ _ _ h => h) (Or.inl ⟨by rfl, ?_⟩) ?_ ?_
  rotate_left
  · intro w'
    go_simp
    with_reducible rfl
  rotate_left
  · simp only [Act.put, List.setIfInBounds_toArray, List.set_cons_zero, List.set_cons_succ, i64_w, i32_w]
    rfl
  refine pure_ (i := 33) (N := some 39) (v := ?_) (a' := ?_) #[true, true, true, true, true, true, true, true, true, true, true, true, true, true, true, true, true, true, true, true, true, true, true, true, true, true, true, true, true, true, true, true, true, true, true, true, false, false, false, true, true, false, false, false] rfl rfl (by kernel_rfl) (fun _ _ _ h => h) (Or.inl ⟨by rfl, ?_⟩) ?_ ?_
  rotate_left
  · intro w'
    go_simp
    with_reducible rfl
  rotate_left
  · simp only [Act.put, List.setIfInBounds_toArray, List.set_cons_zero, List.set_cons_succ, i64_w, i32_w]
    rfl
  refine one_ (i := 36) (N := some 42) #[true, true, true, true, true, true, true, true, true, true, true, true, true, true, true, true, true, true, true, true, true, true, true, true, true, true, true, true, true, true, true, true, true, true, true, true, true, false, false, true, true, false, false, false] rfl rfl (by kernel_rfl) (by decide) (fun K hK => ?_)
  refine goes_ Tryd.func25 (by kernel_rfl) rfl #[.int .i64 T.a7] (by rfl) rfl rfl (by simp only [List.map_toArray, List.map_cons, List.map_nil]; rfl) ?_
  with_reducible refine (D7.out _).mono ?_
  rintro e w3 ⟨rfl, m, rfl⟩
  refine ⟨_, rfl, ?_⟩
  refine hK.out _ _ ⟨(cell_b hHeld.1 (dN _ m)), (cell_b hHeld.2.1 (dN _ m)), (cell_b hHeld.2.2.1 (dN _ m)), (cell_b hHeld.2.2.2.1 (dN _ m)), (cell_b hHeld.2.2.2.2.1 (dN _ m)), (cell_b hHeld.2.2.2.2.2.1 (dN _ m)), (cell_b hHeld.2.2.2.2.2.2.1 (dN _ m)), (cell_b hHeld.2.2.2.2.2.2.2.1 (dN _ m)), (cell_b hHeld.2.2.2.2.2.2.2.2.1 (dN _ m)), (ti_b hHeld.2.2.2.2.2.2.2.2.2 (dN _ m))⟩ (fun hHeld => ?_)
  clear hK K
  refine norm_ (a' := ?_) ?_ ?_
  rotate_left
  · show Act.put _ (some 42) _ = _
    simp only [Act.put, List.setIfInBounds_toArray, List.set_cons_zero, List.set_cons_succ, i64_w, i32_w]
    rfl
  refine pure_ (i := 37) (N := some 43) (v := ?_) (a' := ?_) #[true, true, true, true, true, true, true, true, true, true, true, true, true, true, true, true, true, true, true, true, true, true, true, true, true, true, true, true, true, true, true, true, true, true, true, true, true, true, false, true, true, false, false, false] rfl rfl (by kernel_rfl) (fun _ _ _ h => h) (Or.inl ⟨by rfl, ?_⟩) ?_ ?_
  rotate_left
  · intro w'
    go_simp
    with_reducible rfl
  rotate_left
  · simp only [Act.put, List.setIfInBounds_toArray, List.set_cons_zero, List.set_cons_succ, i64_w, i32_w]
    rfl
  refine pure_ (i := 38) (N := some 44) (v := ?_) (a' := ?_) #[true, true, true, true, true, true, true, true, true, true, true, true, true, true, true, true, true, true, true, true, true, true, true, true, true, true, true, true, true, true, true, true, true, true, true, true, true, true, true, true, true, false, false, false] rfl rfl (by kernel_rfl) (fun _ _ _ h => h) (Or.inl ⟨by rfl, ?_⟩) ?_ ?_
  rotate_left
  · intro w'
    go_simp
    with_reducible rfl
  rotate_left
  · simp only [Act.put, List.setIfInBounds_toArray, List.set_cons_zero, List.set_cons_succ, i64_w, i32_w]
    rfl
  refine one_ (i := 41) (N := some 47) #[true, true, true, true, true, true, true, true, true, true, true, true, true, true, true, true, true, true, true, true, true, true, true, true, true, true, true, true, true, true, true, true, true, true, true, true, true, true, true, true, true, true, false, false] rfl rfl (by kernel_rfl) (by decide) (fun K hK => ?_)
  refine goes_ Tryd.func25 (by kernel_rfl) rfl #[.int .i64 T.a8] (by rfl) rfl rfl (by simp only [List.map_toArray, List.map_cons, List.map_nil]; rfl) ?_
  with_reducible refine (D8.out _).mono ?_
  rintro e w3 ⟨rfl, m, rfl⟩
  refine ⟨_, rfl, ?_⟩
  refine hK.out _ _ ⟨(cell_b hHeld.1 (dN _ m)), (cell_b hHeld.2.1 (dN _ m)), (cell_b hHeld.2.2.1 (dN _ m)), (cell_b hHeld.2.2.2.1 (dN _ m)), (cell_b hHeld.2.2.2.2.1 (dN _ m)), (cell_b hHeld.2.2.2.2.2.1 (dN _ m)), (cell_b hHeld.2.2.2.2.2.2.1 (dN _ m)), (cell_b hHeld.2.2.2.2.2.2.2.1 (dN _ m)), (cell_b hHeld.2.2.2.2.2.2.2.2.1 (dN _ m)), (ti_b hHeld.2.2.2.2.2.2.2.2.2 (dN _ m))⟩ (fun hHeld => ?_)
  clear hK K
  refine norm_ (a' := ?_) ?_ ?_
  rotate_left
  · show Act.put _ (some 47) _ = _
    simp only [Act.put, List.setIfInBounds_toArray, List.set_cons_zero, List.set_cons_succ, i64_w, i32_w]
    rfl
  refine pure_ (i := 42) (N := some 48) (v := ?_) (a' := ?_) #[true, true, true, true, true, true, true, true, true, true, true, true, true, true, true, true, true, true, true, true, true, true, true, true, true, true, true, true, true, true, true, true, true, true, true, true, true, true, true, true, true, true, true, false] rfl rfl (by kernel_rfl) (fun _ _ _ h => h) (Or.inl ⟨by rfl, ?_⟩) ?_ ?_
  rotate_left
  · intro w'
    go_simp
    with_reducible rfl
  rotate_left
  · simp only [Act.put, List.setIfInBounds_toArray, List.set_cons_zero, List.set_cons_succ, i64_w, i32_w]
    rfl
  refine pure_ (i := 43) (N := some 3) (v := ?_) (a' := ?_) #[true, true, true, true, true, true, true, true, true, true, true, true, true, true, true, true, true, true, true, true, true, true, true, true, true, true, true, true, true, true, true, true, true, true, true, true, true, true, true, true, true, true, true, true] rfl rfl (by kernel_rfl) (fun _ _ _ h => h) (Or.inl ⟨by rfl, ?_⟩) ?_ ?_
  rotate_left
  · intro w'
    go_simp
    with_reducible rfl
  rotate_left
  · simp only [Act.put, List.setIfInBounds_toArray, List.set_cons_zero, List.set_cons_succ, i64_w, i32_w]
    rfl
  refine done_ (by kernel_rfl) ?_
  go_wp2_with fail
  (try simp only [Exit.then])
  refine H2.out _ _ (rtell_tail_a T A cO B cD g1 _ (HN9.out.trans HN.out) w HI.out hO hcO hD hcD _ rfl _ (by unfold rtellF toC; rfl) _ hHeld.2.2.2.2.2.2.2.2.2)
end Go.Proofs.YtkjjjgplidompaaDoor.B
