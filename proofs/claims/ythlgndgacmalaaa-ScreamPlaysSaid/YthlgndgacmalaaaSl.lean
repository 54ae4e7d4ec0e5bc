/-
  The third controller: what each of its calls does to it. Walks over the program.
-/
import Derived.Test.YthlgndgacmalaaaFx
import Derived.Test.YthlgndgacmalaaaUn
import Derived.Test.YthlgndgacmalaaaUb
import Derived.Test.YthlgndgacmalaaaCl
import Derived.Test.YthlgndgacmalaaaTo
namespace Go.Proofs.Ythlgndgacmalaaa.B
open Go.RowKit Go.Proofs.YthlgndgacmalaaaW.PrintWords Go.Proofs.YthlgndgacmalaaaW.PrintLast Go.Proofs.YthlgndgacmalaaaW.PrintMore
set_option linter.unusedVariables false
set_option linter.unusedSimpArgs false
/-- The controller. -/
structure Sc where
  rate : Int
  lo : Int
  hi : Int
  win : Int
  fast : Bool
  old : Bool
  was : Int
  cut : Bool
  cutAt : Int
def ScIs (w : World) (g : Nat) (s : Sc) : Prop := w.heap[g]? = some (.cells #[.int .i64 s.rate, .int .i64 s.lo, .int .i64 s.hi, .int .i64 s.win, .bool s.fast, .bool s.old, .int .i64 s.was, .bool s.cut, .int .i64 s.cutAt] 47 (0, 0))
def ScOk (s : Sc) : Prop := I64 s.rate ∧ I64 s.lo ∧ I64 s.hi ∧ I64 s.win
theorem wrap64_i64 (n : Int) : I64 (wrap64 n) := by unfold I64 wrap64; omega
/-- What every report ends with. -/
def Sc.done (s : Sc) (rtt : Int) : Sc × Int :=
  let b := mdo s.hi 1000000 8000000 1
  let w1 := min s.win b
  let w2 := max w1 3000
  let r := mdo w2 8000000 rtt 1
  let r2 := if s.old = true then wrap64 (r - wrap64 (r.tdiv 8)) else r
  let v := cl r2 s.lo s.hi
  ({ s with win := w2, rate := v }, v)
def Sc.off (delay : Int) : Int :=
  max (mdo (hold ((60000 - delay) * 4294967296)) 4294967296 (hold (60000 * 4294967296)) 2) (-4294967296)
def Sc.by_ (s : Sc) (acked delay : Int) : Int :=
  let v := mdo (mdo (Sc.off delay) (hold (mdo acked 1200 s.win 1 * 4294967296)) 4294967296 2) 1 4294967296 1
  if Sc.off delay < 0 then wrap64 (v * 2) else v
def Sc.slow (s : Sc) (acked delay now : Int) : Sc :=
  { s with win := wrap64 (s.win + s.by_ acked delay), fast := if delay < 7500 then (if 5000000 ≤ wrap64 (now - s.was) then true else s.fast) else s.fast }
def Sc.cuts (s : Sc) (lost ecn : Bool) (rtt now : Int) : Bool := (lost || ecn) && (!s.cut || decide (rtt ≤ wrap64 (now - s.cutAt)))
def Sc.main (s : Sc) (acked delay : Int) (lost ecn : Bool) (rtt now : Int) : Sc :=
  if s.cuts lost ecn rtt now = true then { s with win := if lost = true then mdo s.win 4 5 1 else mdo s.win 9 10 1, cut := true, cutAt := now, was := now, fast := false }
  else if s.fast = true then (if 15000 < delay then { s with was := now, fast := false } else { s with was := now, win := wrap64 (s.win + acked) })
  else s.slow acked delay now
def Sc.hear (s : Sc) (acked delay : Int) (lost ecn : Bool) (rtt now : Int) : Sc × Int :=
  Sc.done (s.main (cl acked 0 16777216) (cl delay 0 1000000) lost ecn (cl rtt 1000 1000000) (cl now 0 1125899906842624)) (cl rtt 1000 1000000)
def hearF (g : Nat) (rtt : Int) (q : Nat → Value) : Act := { tmps := #[.pointer (some ⟨g, 0, none⟩), q 1, q 2, q 3, q 4, .int .i64 rtt, q 6, q 7, q 8, q 9, q 10, q 11, q 12, q 13, .int .i64 0, q 15, q 16, q 17, q 18, q 19, q 20, q 21, q 22, q 23, q 24, q 25, q 26, q 27, q 28, q 29, q 30, q 31, q 32, q 33, q 34, q 35, q 36, q 37, q 38, q 39, q 40, q 41, q 42, q 43, q 44, q 45, q 46, q 47, q 48, q 49, q 50, q 51, q 52, q 53, q 54, q 55, q 56, q 57, q 58, q 59, q 60, q 61, q 62, q 63, q 64, q 65, q 66, q 67, q 68, q 69, q 70, q 71, q 72, q 73, q 74, q 75, q 76, q 77, q 78, q 79, q 80, q 81, q 82, q 83, q 84, q 85, q 86, q 87, q 88, q 89, q 90, q 91, q 92, q 93, q 94, q 95, q 96, q 97, q 98, q 99, q 100, q 101, q 102, q 103, q 104, q 105, q 106, q 107, q 108, q 109, q 110, q 111, q 112, q 113, q 114, q 115, q 116, q 117, q 118, q 119, q 120, q 121, q 122, q 123, q 124, q 125, q 126, q 127, q 128, q 129, q 130, q 131, q 132, q 133, q 134, q 135, q 136, q 137, q 138, q 139, q 140, q 141, q 142, q 143, q 144, q 145, q 146, q 147, q 148, q 149, q 150, q 151, q 152, q 153, q 154, q 155], defers := [] }
def HearJ (g : Nat) (w : World) (rtt : Int) (F : Sc × Int) (a' : Act) (w' : World) : Prop :=
  ∃ (s : Sc) (q : Nat → Value), a' = hearF g rtt q ∧ Aside0 (s.done rtt = F) ∧ Aside0 (ScOk s) ∧ Aside0 (ScIs w' g s) ∧ Aside0 (Touch (fun k => k = g) w w')
theorem hearJ_mk {g : Nat} {w : World} {rtt : Int} {F : Sc × Int} {a' : Act} {w' : World} (s : Sc) (h : a' = hearF g rtt (fun i => a'.tmps.getD i undef)) (h1 : s.done rtt = F) (h2 : ScOk s) (h3 : ScIs w' g s) (h4 : Touch (fun k => k = g) w w') : HearJ g w rtt F a' w' :=
  ⟨s, _, h, ⟨h1⟩, ⟨h2⟩, ⟨h3⟩, ⟨h4⟩⟩
def HearQ (g : Nat) (w : World) (F : Sc × Int) (e : Ending) (w' : World) : Prop := e = .returned (.int .i64 F.2) ∧ ScIs w' g F.1 ∧ Touch (fun k => k = g) w w'
set_option maxHeartbeats 4000000 in
theorem slow_walk (g : Nat) (s : Sc) (A D N V1 V2 V3 OFF V4 V5 V6 V7 BY : Int) (FS : Bool) (w : World) (hs : ScIs w g s) (hD0 : 0 ≤ D) (hD1 : D ≤ 1000000)
    (C1 : Aside0 (∀ w, Calls Try.prog 38 #[.int .i64 (60000 - D)] w fun e w' => e = .returned (.int .i64 V1) ∧ Below w.heap.size w w'))
    (C2 : Aside0 (∀ w, Calls Try.prog 38 #[.int .i64 60000] w fun e w' => e = .returned (.int .i64 V2) ∧ Below w.heap.size w w'))
    (C3 : Aside0 (∀ w, Calls Try.prog 37 #[.int .i64 V1, .int .i64 V2] w fun e w' => e = .returned (.int .i64 V3) ∧ Below w.heap.size w w'))
    (EO : max V3 (-4294967296) = OFF)
    (C4 : Aside0 (∀ w, Calls Try.prog 25 #[.int .i64 A, .int .i64 1200, .int .i64 s.win, .int .i64 1] w fun e w' => e = .returned (.int .i64 V4) ∧ Below w.heap.size w w'))
    (C5 : Aside0 (∀ w, Calls Try.prog 38 #[.int .i64 V4] w fun e w' => e = .returned (.int .i64 V5) ∧ Below w.heap.size w w'))
    (C6 : Aside0 (∀ w, Calls Try.prog 40 #[.int .i64 OFF, .int .i64 V5] w fun e w' => e = .returned (.int .i64 V6) ∧ Below w.heap.size w w'))
    (C7 : Aside0 (∀ w, Calls Try.prog 39 #[.int .i64 V6] w fun e w' => e = .returned (.int .i64 V7) ∧ Below w.heap.size w w'))
    (HBY : Aside0 (BY = if OFF < 0 then wrap64 (V7 * 2) else V7)) (HFS : Aside0 (FS = if D < 7500 then (if 5000000 ≤ wrap64 (N - s.was) then true else s.fast) else s.fast)) :
    Calls Try.prog 24 #[.pointer (some ⟨g, 0, none⟩), .int .i64 A, .int .i64 D, .int .i64 N] w fun e w' => e = .returned (.tuple #[]) ∧ ScIs w' g { s with win := wrap64 (s.win + BY), fast := FS } ∧ Touch (fun k => k = g) w w' := by
  obtain ⟨rate, lo, hi, win, fast, old, was, cut, cutAt⟩ := s
  unfold ScIs at hs
  dsimp only at hs C4 HFS
  have hlt := blk_lt hs
  have HS := Aside0.mk hs
  clear hs
  go_enter Try.func24, Try.ntmps24
  go_wp2_with fail
  refine (C1.out _).mono ?_
  rintro e w1 ⟨rfl, hB1⟩
  go_wp2_with fail
  refine (C2.out _).mono ?_
  rintro e w2 ⟨rfl, hB2⟩
  go_wp2_with fail
  refine (C3.out _).mono ?_
  rintro e w3 ⟨rfl, hB3⟩
  have T3 : Touch (fun k => k = g) w w3 := (((Touch.refl _ _).below hB1).below hB2).below hB3
  have HT3 := Aside0.mk T3
  have H3 := (((hB1.trans (hB2.mono hB1.size)).trans (hB3.mono (Nat.le_trans hB1.size hB2.size))).block g hlt).trans HS.out
  have k0 := blk_cell H3 0
  have k1 := blk_cell H3 1
  have k2 := blk_cell H3 2
  have k3 := blk_cell H3 3
  have k4 := blk_cell H3 4
  have k5 := blk_cell H3 5
  have k6 := blk_cell H3 6
  have k7 := blk_cell H3 7
  have k8 := blk_cell H3 8
  simp only [List.getElem?_toArray, List.getElem?_cons_zero, List.getElem?_cons_succ] at k0 k1 k2 k3 k4 k5 k6 k7 k8
  have HH3 := Aside0.mk H3
  have hlt3 := blk_lt H3
  clear H3 hB1 hB2 hB3 T3
  go_wp2_with fail
  refine (C4.out _).mono ?_
  rintro e w4 ⟨rfl, hB4⟩
  go_wp2_with fail
  refine (C5.out _).mono ?_
  rintro e w5 ⟨rfl, hB5⟩
  go_wp2_with fail
  refine (C6.out _).mono ?_
  rintro e w6 ⟨rfl, hB6⟩
  go_wp2_with fail
  refine (C7.out _).mono ?_
  rintro e w7 ⟨rfl, hB7⟩
  have T7 : Touch (fun k => k = g) w w7 := (((HT3.out.below hB4).below hB5).below hB6).below hB7
  have HT7 := Aside0.mk T7
  have H7 := ((((hB4.trans (hB5.mono hB4.size)).trans (hB6.mono (Nat.le_trans hB4.size hB5.size))).trans (hB7.mono (Nat.le_trans (Nat.le_trans hB4.size hB5.size) hB6.size))).block g hlt3).trans HH3.out
  have n0 := blk_cell H7 0
  have n1 := blk_cell H7 1
  have n2 := blk_cell H7 2
  have n3 := blk_cell H7 3
  have n4 := blk_cell H7 4
  have n5 := blk_cell H7 5
  have n6 := blk_cell H7 6
  have n7 := blk_cell H7 7
  have n8 := blk_cell H7 8
  simp only [List.getElem?_toArray, List.getElem?_cons_zero, List.getElem?_cons_succ] at n0 n1 n2 n3 n4 n5 n6 n7 n8
  have f3 := blk_frozen H7 3
  have f4 := blk_frozen H7 4
  have HH7 := Aside0.mk H7
  clear H7 hB4 hB5 hB6 hB7 T7 EO k0 k1 k2 k3 k4 k5 k6 k7 k8
  go_wp2_with fail
  all_goals go_end0
  all_goals
    have eBY := HBY.out
    have eFS := HFS.out
    first | rw [if_pos (by assumption)] at eBY | rw [if_neg (by omega)] at eBY
    first | rw [if_pos (by assumption), if_pos (by assumption)] at eFS | rw [if_pos (by assumption), if_neg (by omega)] at eFS | rw [if_neg (by omega)] at eFS
    subst eBY eFS
    unfold ScIs
    dsimp only
    first
      | exact ⟨rfl, (blk_set (blk_set HH7.out 3 _) 4 _).trans (by simp), (HT7.out.setCell (.inl rfl) _).setCell (.inl rfl) _⟩
      | exact ⟨rfl, (blk_set HH7.out 3 _).trans (by simp), HT7.out.setCell (.inl rfl) _⟩
theorem slow_any (g : Nat) (s : Sc) (A D N : Int) (w : World) (hs : ScIs w g s) (hok : ScOk s) (hA : I64 A) (hD0 : 0 ≤ D) (hD1 : D ≤ 1000000) :
    Calls Try.prog 24 #[.pointer (some ⟨g, 0, none⟩), .int .i64 A, .int .i64 D, .int .i64 N] w fun e w' => e = .returned (.tuple #[]) ∧ ScIs w' g (s.slow A D N) ∧ Touch (fun k => k = g) w w' := by
  have i1 : I64 (60000 - D) := i64_const (by omega) (by omega)
  have i2 : I64 (max (mdo (hold ((60000 - D) * 4294967296)) 4294967296 (hold (60000 * 4294967296)) 2) (-4294967296)) := by
    have := mdo_range (hold ((60000 - D) * 4294967296)) 4294967296 (hold (60000 * 4294967296)) 2
    unfold I64 at *
    omega
  exact slow_walk g s A D N _ _ _ _ _ _ _ _ _ _ w hs hD0 hD1 ⟨fun w => fof_any _ i1 w⟩ ⟨fun w => fof_any _ (i64_const (by omega) (by omega)) w⟩ ⟨fun w => fdiv_any _ _ (hold_i64 _) (hold_i64 _) w⟩ rfl
    ⟨fun w => do_any A 1200 s.win 1 hA (i64_const (by omega) (by omega)) hok.2.2.2 w⟩ ⟨fun w => fof_any _ (mdo_range _ _ _ _) w⟩ ⟨fun w => fmul_any _ _ i2 (hold_i64 _) w⟩ ⟨fun w => fint_any _ (mdo_range _ _ _ _) w⟩ ⟨rfl⟩ ⟨rfl⟩
end Go.Proofs.Ythlgndgacmalaaa.B
