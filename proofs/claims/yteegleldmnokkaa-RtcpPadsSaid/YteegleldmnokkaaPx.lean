/-
  A message taken apart: no first part, where the text is too short. Walk over the program.
-/
import Derived.Test.YteegleldmnokkaaPw
namespace Go.Proofs.Yteegleldmnokkaa.B
open Go.RowKit Go.Proofs.YteegleldmnokkaaW.PrintWords Go.Proofs.YteegleldmnokkaaW.PrintLast Go.Proofs.YteegleldmnokkaaW.PrintMore
set_option linter.unusedVariables false
set_option linter.unusedSimpArgs false
set_option maxHeartbeats 8000000 in
set_option maxRecDepth 100000 in
theorem part_one (s : ByteArray) (w : World) (hs : s.size = 1) : Calls Try.prog 23 #[.string s] w (PartPost s w) := by
  go_enter Try.func23, Try.ntmps23
  go_wp2_with fail
  refine (read_any _ s).mono ?_
  rintro e w1 ⟨rfl, rfl⟩
  have hr0 : RdIs ((w.alloc (.cells #[.int .i64 0, .int .i64 0, .string { data := #[] }] 40)).alloc (.cells #[.string s, .int .i64 0, .bool false] 71)) (w.heap.size + 1) 71 s ((0 : Nat) : Int) false := by
    have h := blk_new (w.alloc (.cells #[.int .i64 0, .int .i64 0, .string { data := #[] }] 40)) (.cells #[.string s, .int .i64 0, .bool false] 71)
    rw [show (w.alloc (.cells #[.int .i64 0, .int .i64 0, .string { data := #[] }] 40)).heap.size = w.heap.size + 1 by simp] at h
    exact h
  have hB0 : Below w.heap.size w ((w.alloc (.cells #[.int .i64 0, .int .i64 0, .string { data := #[] }] 40)).alloc (.cells #[.string s, .int .i64 0, .bool false] 71)) := ((Below.refl _ _).alloc (Nat.le_refl _) _).alloc (by simp) _
  have hRB : ((w.alloc (.cells #[.int .i64 0, .int .i64 0, .string { data := #[] }] 40)).alloc (.cells #[.string s, .int .i64 0, .bool false] 71)).heap[w.heap.size]? = some (.cells #[.int .i64 0, .int .i64 0, .string { data := #[] }] 40 (0, 0)) := (Below.heap_alloc _ _ _ (by simp)).trans (blk_new w _)
  obtain ⟨p, hp⟩ : ∃ p, p = w.heap.size + 1 := ⟨_, rfl⟩
  obtain ⟨rb, hrb⟩ : ∃ p, p = w.heap.size := ⟨_, rfl⟩
  rw [show (w.alloc (.cells #[.int .i64 0, .int .i64 0, .string { data := #[] }] 40)).heap.size = p by simp [hp]]
  rw [← hp] at hr0
  rw [← hrb] at hRB ⊢
  generalize (w.alloc (.cells #[.int .i64 0, .int .i64 0, .string { data := #[] }] 40)).alloc (.cells #[.string s, .int .i64 0, .bool false] 71) = w1 at *
  have hpw : w.heap.size ≤ p := by omega
  have hrp : rb < p := by omega
  have hrw : w.heap.size ≤ rb := by omega
  have R1 := Aside0.mk hr0
  have B1 := Aside0.mk hB0
  have Q1 := Aside0.mk hRB
  clear hp hrb hr0 hB0 hRB
  go_wp2_with fail
  refine (get_good w1 p s 0 2 R1.out (by omega) (by omega) (by omega) (by omega)).mono ?_
  rintro e w2 ⟨rfl, hr, hg⟩
  have R2 : Aside0 (RdIs w2 p 71 s ((2 : Nat) : Int) false) := ⟨by simpa using hr⟩
  have B2 := Aside0.mk (grown_below B1.out hpw hg)
  clear hr hg
  obtain ⟨V1, hV1⟩ : ∃ V, V = rdBits s 0 2 := ⟨_, rfl⟩
  have v1 : V1 < 256 := by have := rdBits_lt s 0 2; rw [← hV1] at this; omega
  rw [← hV1]
  clear hV1
  go_wp2_with fail
  refine (get_good w2 p s 2 1 R2.out (by omega) (by omega) (by omega) (by omega)).mono ?_
  rintro e w3 ⟨rfl, hr, hg⟩
  have R3 : Aside0 (RdIs w3 p 71 s ((3 : Nat) : Int) false) := ⟨by simpa using hr⟩
  have B3 := Aside0.mk (grown_below B2.out hpw hg)
  clear hr hg
  obtain ⟨V2, hV2⟩ : ∃ V, V = rdBits s 2 1 := ⟨_, rfl⟩
  have v2 : V2 < 256 := by have := rdBits_lt s 2 1; rw [← hV2] at this; omega
  rw [← hV2]
  clear hV2
  go_wp2_with fail
  refine (get_good w3 p s 3 5 R3.out (by omega) (by omega) (by omega) (by omega)).mono ?_
  rintro e w4 ⟨rfl, hr, hg⟩
  have R4 : Aside0 (RdIs w4 p 71 s ((8 : Nat) : Int) false) := ⟨by simpa using hr⟩
  have B4 := Aside0.mk (grown_below B3.out hpw hg)
  clear hr hg
  obtain ⟨V3, hV3⟩ : ∃ V, V = rdBits s 3 5 := ⟨_, rfl⟩
  have v3 : V3 < 256 := by have := rdBits_lt s 3 5; rw [← hV3] at this; omega
  rw [← hV3]
  clear hV3
  go_wp2_with fail
  refine (get_over w4 p s ((8 : Nat) : Int) 8 R4.out (by omega) (by omega) (by omega)).mono ?_
  rintro e w5 ⟨rfl, hr, hg⟩
  have R5 := Aside0.mk hr
  have B5 := Aside0.mk (grown_below B4.out hpw hg)
  clear hr hg
  go_wp2_with fail
  have R6 : Aside0 (RdIs (w5.alloc (.cells #[.int .i64 (V3 : Int), .int .i64 0, .string { data := #[] }] 40)) p 71 s _ _) := ⟨(Below.heap_alloc w5 _ p (blk_lt R5.out)).trans R5.out⟩
  have B6 := Aside0.mk (B5.out.alloc (o := .cells #[.int .i64 (V3 : Int), .int .i64 0, .string { data := #[] }] 40) B5.out.size)
  generalize w5.alloc (.cells #[.int .i64 (V3 : Int), .int .i64 0, .string { data := #[] }] 40) = w6 at *
  refine (get_was w6 p s _ 16 R6.out).mono ?_
  rintro e w7 ⟨rfl, hr, hg⟩
  have R7 := Aside0.mk hr
  have B7 := Aside0.mk (grown_below B6.out hpw hg)
  clear hr hg
  go_wp2_with fail
  refine (bad_any w7 p s _ true R7.out).mono ?_
  rintro e w8 ⟨rfl, hw8⟩
  obtain rfl := hw8.symm
  have HE := Aside0.mk (show partErr s = 60 by unfold partErr; rw [if_pos (by omega)])
  go_wp2_with fail
  refine (want_no 60 _).mono ?_
  rintro e w8 ⟨rfl, hw8⟩
  obtain rfl := hw8.symm
  go_wp2_with fail
  exact ⟨rfl, PartPost.bad HE.out (by decide) B7.out⟩
set_option maxHeartbeats 8000000 in
set_option maxRecDepth 100000 in
theorem part_few (s : ByteArray) (w : World) (hs : 2 ≤ s.size) (hs2 : s.size < 4) : Calls Try.prog 23 #[.string s] w (PartPost s w) := by
  go_enter Try.func23, Try.ntmps23
  go_wp2_with fail
  refine (read_any _ s).mono ?_
  rintro e w1 ⟨rfl, rfl⟩
  have hr0 : RdIs ((w.alloc (.cells #[.int .i64 0, .int .i64 0, .string { data := #[] }] 40)).alloc (.cells #[.string s, .int .i64 0, .bool false] 71)) (w.heap.size + 1) 71 s ((0 : Nat) : Int) false := by
    have h := blk_new (w.alloc (.cells #[.int .i64 0, .int .i64 0, .string { data := #[] }] 40)) (.cells #[.string s, .int .i64 0, .bool false] 71)
    rw [show (w.alloc (.cells #[.int .i64 0, .int .i64 0, .string { data := #[] }] 40)).heap.size = w.heap.size + 1 by simp] at h
    exact h
  have hB0 : Below w.heap.size w ((w.alloc (.cells #[.int .i64 0, .int .i64 0, .string { data := #[] }] 40)).alloc (.cells #[.string s, .int .i64 0, .bool false] 71)) := ((Below.refl _ _).alloc (Nat.le_refl _) _).alloc (by simp) _
  have hRB : ((w.alloc (.cells #[.int .i64 0, .int .i64 0, .string { data := #[] }] 40)).alloc (.cells #[.string s, .int .i64 0, .bool false] 71)).heap[w.heap.size]? = some (.cells #[.int .i64 0, .int .i64 0, .string { data := #[] }] 40 (0, 0)) := (Below.heap_alloc _ _ _ (by simp)).trans (blk_new w _)
  obtain ⟨p, hp⟩ : ∃ p, p = w.heap.size + 1 := ⟨_, rfl⟩
  obtain ⟨rb, hrb⟩ : ∃ p, p = w.heap.size := ⟨_, rfl⟩
  rw [show (w.alloc (.cells #[.int .i64 0, .int .i64 0, .string { data := #[] }] 40)).heap.size = p by simp [hp]]
  rw [← hp] at hr0
  rw [← hrb] at hRB ⊢
  generalize (w.alloc (.cells #[.int .i64 0, .int .i64 0, .string { data := #[] }] 40)).alloc (.cells #[.string s, .int .i64 0, .bool false] 71) = w1 at *
  have hpw : w.heap.size ≤ p := by omega
  have hrp : rb < p := by omega
  have hrw : w.heap.size ≤ rb := by omega
  have R1 := Aside0.mk hr0
  have B1 := Aside0.mk hB0
  have Q1 := Aside0.mk hRB
  clear hp hrb hr0 hB0 hRB
  go_wp2_with fail
  refine (get_good w1 p s 0 2 R1.out (by omega) (by omega) (by omega) (by omega)).mono ?_
  rintro e w2 ⟨rfl, hr, hg⟩
  have R2 : Aside0 (RdIs w2 p 71 s ((2 : Nat) : Int) false) := ⟨by simpa using hr⟩
  have B2 := Aside0.mk (grown_below B1.out hpw hg)
  clear hr hg
  obtain ⟨V1, hV1⟩ : ∃ V, V = rdBits s 0 2 := ⟨_, rfl⟩
  have v1 : V1 < 256 := by have := rdBits_lt s 0 2; rw [← hV1] at this; omega
  rw [← hV1]
  clear hV1
  go_wp2_with fail
  refine (get_good w2 p s 2 1 R2.out (by omega) (by omega) (by omega) (by omega)).mono ?_
  rintro e w3 ⟨rfl, hr, hg⟩
  have R3 : Aside0 (RdIs w3 p 71 s ((3 : Nat) : Int) false) := ⟨by simpa using hr⟩
  have B3 := Aside0.mk (grown_below B2.out hpw hg)
  clear hr hg
  obtain ⟨V2, hV2⟩ : ∃ V, V = rdBits s 2 1 := ⟨_, rfl⟩
  have v2 : V2 < 256 := by have := rdBits_lt s 2 1; rw [← hV2] at this; omega
  rw [← hV2]
  clear hV2
  go_wp2_with fail
  refine (get_good w3 p s 3 5 R3.out (by omega) (by omega) (by omega) (by omega)).mono ?_
  rintro e w4 ⟨rfl, hr, hg⟩
  have R4 : Aside0 (RdIs w4 p 71 s ((8 : Nat) : Int) false) := ⟨by simpa using hr⟩
  have B4 := Aside0.mk (grown_below B3.out hpw hg)
  clear hr hg
  obtain ⟨V3, hV3⟩ : ∃ V, V = rdBits s 3 5 := ⟨_, rfl⟩
  have v3 : V3 < 256 := by have := rdBits_lt s 3 5; rw [← hV3] at this; omega
  rw [← hV3]
  clear hV3
  go_wp2_with fail
  refine (get_good w4 p s 8 8 R4.out (by omega) (by omega) (by omega) (by omega)).mono ?_
  rintro e w5 ⟨rfl, hr, hg⟩
  have R5 : Aside0 (RdIs w5 p 71 s ((16 : Nat) : Int) false) := ⟨by simpa using hr⟩
  have B5 := Aside0.mk (grown_below B4.out hpw hg)
  clear hr hg
  obtain ⟨V4, hV4⟩ : ∃ V, V = rdBits s 8 8 := ⟨_, rfl⟩
  have v4 : V4 < 256 := by have := rdBits_lt s 8 8; rw [← hV4] at this; omega
  rw [← hV4]
  clear hV4
  go_wp2_with fail
  have R6 : Aside0 (RdIs (w5.alloc (.cells #[.int .i64 (V3 : Int), .int .i64 (V4 : Int), .string { data := #[] }] 40)) p 71 s _ _) := ⟨(Below.heap_alloc w5 _ p (blk_lt R5.out)).trans R5.out⟩
  have B6 := Aside0.mk (B5.out.alloc (o := .cells #[.int .i64 (V3 : Int), .int .i64 (V4 : Int), .string { data := #[] }] 40) B5.out.size)
  generalize w5.alloc (.cells #[.int .i64 (V3 : Int), .int .i64 (V4 : Int), .string { data := #[] }] 40) = w6 at *
  refine (get_over w6 p s _ 16 R6.out (by omega) (by omega) (by omega)).mono ?_
  rintro e w7 ⟨rfl, hr, hg⟩
  have R7 := Aside0.mk hr
  have B7 := Aside0.mk (grown_below B6.out hpw hg)
  clear hr hg
  go_wp2_with fail
  refine (bad_any w7 p s _ true R7.out).mono ?_
  rintro e w8 ⟨rfl, hw8⟩
  obtain rfl := hw8.symm
  have HE := Aside0.mk (show partErr s = 60 by unfold partErr; rw [if_pos (by omega)])
  go_wp2_with fail
  refine (want_no 60 _).mono ?_
  rintro e w8 ⟨rfl, hw8⟩
  obtain rfl := hw8.symm
  go_wp2_with fail
  exact ⟨rfl, PartPost.bad HE.out (by decide) B7.out⟩
theorem part_any (s : ByteArray) (w : World) (h0 : 0 < s.size) (h1 : s.size ≤ 1000000) : Calls Try.prog 23 #[.string s] w (PartPost s w) := by
  by_cases h : 4 ≤ s.size
  · exact part_long s w h h1
  · by_cases h2 : s.size = 1
    · exact part_one s w h2
    · exact part_few s w (by omega) (by omega)
end Go.Proofs.Yteegleldmnokkaa.B
