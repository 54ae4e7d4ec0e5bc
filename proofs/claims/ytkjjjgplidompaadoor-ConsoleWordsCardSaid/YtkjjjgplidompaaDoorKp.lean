/-
  ConsoleWords. Walk.
-/
import Derived.Test.YtkjjjgplidompaaDoorKo
namespace Go.Proofs.YtkjjjgplidompaaDoor.B
open Go.RowKit Go.Proofs.YtkjjjgplidompaaDoorW.PrintWords Go.Proofs.YtkjjjgplidompaaDoorW.PrintLast Go.Proofs.YtkjjjgplidompaaDoorW.PrintMore
set_option linter.unusedVariables false
set_option linter.unusedSimpArgs false
theorem bad_at (n : List UInt8) (k : Nat) (h : k < 11) : (#[Value.string (tx ([116, 32, 32] ++ n)), Value.string (tx ([32] ++ ([116, 32] ++ n))), Value.string (tx ([116, 32] ++ n ++ [32])), Value.string (tx ([116, 32, 48] ++ n)), Value.string (tx ([116, 32, 43] ++ n)), Value.string (tx ([116, 32, 45] ++ n)), Value.string (tx ([84, 32] ++ n)), Value.string (tx ([116] ++ n)), Value.string (tx ([116, 32] ++ n ++ [32, 49])), Value.string (tx ([116, 32, 49] ++ n ++ [48, 48, 48, 48, 48, 48, 48, 48, 48, 48, 48, 48, 48, 48, 48, 48, 48, 48])), Value.string (tx ([116, 32, 48, 120] ++ n))] : Array Value)[k]? = some (.string (tx (badL n k))) := by
  have hk : k = 0 ∨ k = 1 ∨ k = 2 ∨ k = 3 ∨ k = 4 ∨ k = 5 ∨ k = 6 ∨ k = 7 ∨ k = 8 ∨ k = 9 ∨ k = 10 := by omega
  rcases hk with rfl | rfl | rfl | rfl | rfl | rfl | rfl | rfl | rfl | rfl | rfl <;> rfl
theorem bad_len (n : List UInt8) (k : Nat) (h : n.length ≤ 18) : (badL n k).length ≤ 100 := by
  unfold badL
  repeat' split
  all_goals (simp only [List.length_append, List.length_cons, List.length_nil]; omega)
set_option maxHeartbeats 4000000 in
set_option maxRecDepth 100000 in
theorem words_law (u sp : Nat) (hu : u ≤ 4294967295) (hsp : sp ≤ 255) (w : World) (hT : Tab w) : Calls Tryd.prog 5 #[.int .u32 (u : Int), .int .u8 (sp : Int)] w fun e w' => e = .returned (.bool true) ∧ Below w.heap.size w w' := by
  obtain ⟨n, hn⟩ : ∃ n, n = Lib.decDigits u := ⟨_, rfl⟩
  obtain ⟨L, hL⟩ : ∃ L, L = [116, 32] ++ n := ⟨_, rfl⟩
  have hp : parseL L = some ⟨2, u, 0, 0, 0, 0, []⟩ := by rw [hL, hn]; exact tick_line u (by omega)
  have hI : StI ⟨2, u, 0, 0, 0, 0, []⟩ := ⟨⟨by dsimp only; omega, by dsimp only; omega⟩, by dsimp only; omega, by dsimp only; omega, by dsimp only; omega, by dsimp only; omega, by simp⟩
  have hn1 : n ≠ [] := by rw [hn]; exact decDigits_ne u
  have hn2 : n.all isDig = true := by rw [hn]; exact decDigits_dig (u + 1) u (by omega)
  have hnl : n.length ≤ 18 := by rw [hn]; exact decDigits_len 18 u (by omega) (by omega)
  have hnp : 1 ≤ n.length := by
    cases n with
    | nil => exact absurd rfl hn1
    | cons _ _ => simp
  have hLl : L.length = n.length + 2 := by rw [hL]; simp
  obtain ⟨k, hk⟩ : ∃ k, k = sp % 11 := ⟨_, rfl⟩
  have w2 : Int.tmod (sp : Int) 11 = (k : Int) := by rw [Int.tmod_eq_emod_of_nonneg (by omega)]; omega
  have hk11 : k < 11 := by omega
  have HL := Aside0.mk (fun w hT => line_any ⟨2, u, 0, 0, 0, 0, []⟩ w hT hI)
  unfold LinePost at HL
  rw [lineV_some (parse_line hp)] at HL
  have HP := Aside0.mk (fun w => parse_any (tx L) w (by rw [tx_size]; omega))
  rw [tx_data] at HP
  unfold ParPost at HP
  rw [parV_some hp] at HP
  have HZ := Aside0.mk (fun w => parse_any (tx (badL n k)) w (by rw [tx_size]; have := bad_len n k hnl; omega))
  rw [tx_data] at HZ
  unfold ParPost at HZ
  rw [parV_none (bad_none n hn2 hn1 k)] at HZ
  unfold stV stC at HL HP HZ
  unfold stZ at HZ
  dsimp only at HL HP HZ
  have hsl : ∀ w : World, (Instr.slice 9 (.string (tx L)) (some (.int .i64 2)) none none).run Tryd.prog w = .ok (.string (tx n)) w := by
    intro w
    have h := slice_from (tx L) 2 (by rw [tx_size]; omega) w
    rw [tx_data, tx_size, List.take_of_length_le (Nat.le_refl _), hL] at h
    rw [hL]
    exact h
  have a0 := add_run [116, 32, 32] n (by simp; omega)
  have a1 := add_run [32] L (by simp; omega)
  have a2 := add_run L [32] (by simp; omega)
  have a3 := add_run [116, 32, 48] n (by simp; omega)
  have a4 := add_run [116, 32, 43] n (by simp; omega)
  have a5 := add_run [116, 32, 45] n (by simp; omega)
  have a6 := add_run [84, 32] n (by simp; omega)
  have a7 := add_run [116] n (by simp; omega)
  have a8 := add_run L [32, 49] (by simp; omega)
  have a9 := add_run [116, 32, 49] n (by simp; omega)
  obtain ⟨Z1, hZ1⟩ : ∃ Z, Z = [116, 32, 49] ++ n := ⟨_, rfl⟩
  have hZ1l : Z1.length ≤ 100 := by rw [hZ1]; simp; omega
  rw [← hZ1] at a9
  have a10 := add_run Z1 [48, 48, 48, 48, 48, 48, 48, 48, 48, 48, 48, 48, 48, 48, 48, 48, 48, 48] (by simp; omega)
  have a11 := add_run [116, 32, 48, 120] n (by simp; omega)
  obtain ⟨S0, h0⟩ : ∃ Z, Z = [116, 32, 32] ++ n := ⟨_, rfl⟩
  obtain ⟨S1, h1⟩ : ∃ Z, Z = [32] ++ L := ⟨_, rfl⟩
  obtain ⟨S2, h2⟩ : ∃ Z, Z = L ++ [32] := ⟨_, rfl⟩
  obtain ⟨S3, h3⟩ : ∃ Z, Z = [116, 32, 48] ++ n := ⟨_, rfl⟩
  obtain ⟨S4, h4⟩ : ∃ Z, Z = [116, 32, 43] ++ n := ⟨_, rfl⟩
  obtain ⟨S5, h5⟩ : ∃ Z, Z = [116, 32, 45] ++ n := ⟨_, rfl⟩
  obtain ⟨S6, h6⟩ : ∃ Z, Z = [84, 32] ++ n := ⟨_, rfl⟩
  obtain ⟨S7, h7⟩ : ∃ Z, Z = [116] ++ n := ⟨_, rfl⟩
  obtain ⟨S8, h8⟩ : ∃ Z, Z = L ++ [32, 49] := ⟨_, rfl⟩
  obtain ⟨S9, h9⟩ : ∃ Z, Z = Z1 ++ [48, 48, 48, 48, 48, 48, 48, 48, 48, 48, 48, 48, 48, 48, 48, 48, 48, 48] := ⟨_, rfl⟩
  obtain ⟨S10, h10⟩ : ∃ Z, Z = [116, 32, 48, 120] ++ n := ⟨_, rfl⟩
  rw [← h0] at a0
  rw [← h1] at a1
  rw [← h2] at a2
  rw [← h3] at a3
  rw [← h4] at a4
  rw [← h5] at a5
  rw [← h6] at a6
  rw [← h7] at a7
  rw [← h8] at a8
  rw [← h9] at a10
  rw [← h10] at a11
  have HBA : Aside0 ((#[Value.string (tx S0), .string (tx S1), .string (tx S2), .string (tx S3), .string (tx S4), .string (tx S5), .string (tx S6), .string (tx S7), .string (tx S8), .string (tx S9), .string (tx S10)] : Array Value)[k]? = some (.string (tx (badL n k)))) := ⟨by
    rw [h0, h1, h2, h3, h4, h5, h6, h7, h8, h9, h10, hZ1, hL]
    exact bad_at n k hk11⟩
  obtain ⟨X, hX⟩ : ∃ X, X = badL n k := ⟨_, rfl⟩
  rw [← hX] at HBA HZ
  have HE : ∀ h : k < ([Value.string (tx S0), Value.string (tx S1), Value.string (tx S2), Value.string (tx S3), Value.string (tx S4), Value.string (tx S5), Value.string (tx S6), Value.string (tx S7), Value.string (tx S8), Value.string (tx S9), Value.string (tx S10)] : List Value).length, ([Value.string (tx S0), Value.string (tx S1), Value.string (tx S2), Value.string (tx S3), Value.string (tx S4), Value.string (tx S5), Value.string (tx S6), Value.string (tx S7), Value.string (tx S8), Value.string (tx S9), Value.string (tx S10)] : List Value)[k]'h = .string (tx X) := fun h => by
    have h2 := HBA.out
    rw [List.getElem?_toArray, List.getElem?_eq_getElem h] at h2
    exact Option.some.inj h2
  have q1 : decide ((L.length : Int) < 3) = false := decide_eq_false (by omega)
  clear h0 h1 h2 h3 h4 h5 h6 h7 h8 h9 h10 hZ1 hL hn hX hp hI hn1 hn2 hk
  go_enter Tryd.func5, Tryd.ntmps5
  go_wp2_with fail
  refine (HL.out _ hT).mono ?_
  rintro e w1 ⟨rfl, hb1⟩
  have HB1 := Aside0.mk hb1
  clear hb1 HL
  go_wp2_with fail
  refine (HP.out _).mono ?_
  rintro e w2 ⟨rfl, hb2⟩
  have HB2 := Aside0.mk (HB1.out.trans (hb2.mono HB1.out.size))
  have HB3 := Aside0.mk (HB2.out.alloc HB2.out.size (.cells #[.int .i64 2, .int .i64 (u : Int), .int .i64 0, .int .i64 0, .int .i64 0, .int .i64 0, .string (tx [])] 26))
  have HB4 := Aside0.mk (HB3.out.alloc HB3.out.size (.cells #[Value.string (tx S0), Value.string (tx S1), Value.string (tx S2), Value.string (tx S3), Value.string (tx S4), Value.string (tx S5), Value.string (tx S6), Value.string (tx S7), Value.string (tx S8), Value.string (tx S9), Value.string (tx S10)] 9))
  clear hb2 HP HB1
  go_wp2_with fail
  (try rw [HE])
  refine (HZ.out _).mono ?_
  rintro e w3 ⟨rfl, hb3⟩
  have hB5 := HB4.out.trans (hb3.mono HB4.out.size)
  have HB6 := Aside0.mk (hB5.alloc hB5.size (.cells #[.int .i64 0, .int .i64 0, .int .i64 0, .int .i64 0, .int .i64 0, .int .i64 0, .string (tx [])] 26))
  clear hb3 hB5
  go_wp2_with fail
  refine (wakes_true _ (hT.below HB6.out)).mono ?_
  rintro e w4 ⟨rfl, hb4⟩
  have HB7 := Aside0.mk (HB6.out.trans (hb4.mono HB6.out.size))
  clear hb4
  go_wp2_with fail
  go_ret
  exact ⟨rfl, HB7.out⟩
theorem wordsLaw_row (u sp : Int) (w : World) (hT : Tab w) (hu : 0 ≤ u ∧ u ≤ 4294967295) (hs : 0 ≤ sp ∧ sp ≤ 255) : Calls Tryd.prog 5 #[.int .u32 u, .int .u8 sp] w fun e w' => e = .returned (.bool true) ∧ Below w.heap.size w w' := by
  obtain ⟨m, rfl⟩ : ∃ m : Nat, u = (m : Int) := ⟨u.toNat, by omega⟩
  obtain ⟨n, rfl⟩ : ∃ n : Nat, sp = (n : Int) := ⟨sp.toNat, by omega⟩
  exact words_law m n (by omega) (by omega) w hT
end Go.Proofs.YtkjjjgplidompaaDoor.B
