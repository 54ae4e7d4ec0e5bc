-- Printed by a program of this session's (myprint.py) for this claim.
import Derived.Test.YtnllbldfganfgaaPNackMasksx0
import Derived.Test.YtnllbldfganfgaaPNackMasksx1
namespace Go.Proofs.Ytnllbldfganfgaa.PNackMasks
open Go.RowKit Go.Proofs.YtnllbldfganfgaaW.PrintWords Go.Proofs.YtnllbldfganfgaaW.PrintLast Go.Proofs.YtnllbldfganfgaaW.PrintMore
attribute [local go_sem] max2_int min2_int max_two min_two max_three min_three max_four min_four   -- for this text's walks alone
set_option linter.unusedVariables false
set_option linter.unusedSimpArgs false

/-! ### nack_Encode: function 10 -/
def nack_Encode.f (s m : Int) (l : List Int) : Option (ByteArray × Int) := if 0 ≤ s then (if s < 4294967296 then (if 0 ≤ m then (if m < 4294967296 then (some (B.nackEnc s m l)) else (none)) else (none)) else (none)) else (none)
theorem or_u32_nat (a b : Nat) (ha : a < 4294967296) (hb : b < 4294967296) : bits .or .u32 (a : Int) (b : Int) = ((a ||| b : Nat) : Int) := by
  have e32 : ∀ z : Nat, z < 4294967296 → (BitVec.ofInt 32 (z : Int)).toNat = z := fun z hz => by rw [BitVec.ofInt_natCast, BitVec.toNat_ofNat]; exact Nat.mod_eq_of_lt (by omega)
  have hor : a ||| b < 2 ^ 32 := Nat.or_lt_two_pow (by omega) (by omega)
  show IntKind.u32.wrap ((BitVec.ofInt 32 (a : Int) ||| BitVec.ofInt 32 (b : Int)).toNat : Int) = _
  rw [BitVec.toNat_or, e32 a ha, e32 b hb, IntKind.wrap_u32]
  omega
theorem quietE {P : Program} {f : FuncId} {args : Array Value} {w W : World} {v : Value} (hW : ∃ n, W = w.drewN n) (h : Calls P f args W fun e w' => e = .returned v ∧ Drawn0 W w') :
    Calls P f args W fun e w'' => e = .returned v ∧ ∃ m, w'' = w.drewN m :=
  h.mono fun _ _ ⟨he, hd⟩ => ⟨he, by obtain ⟨n, rfl⟩ := hW; obtain ⟨m, hm⟩ := hd.out; exact ⟨n + m, by rw [hm, World.drewN_drewN]⟩⟩
set_option maxHeartbeats 4000000 in
theorem nack_Encode.main (A : Option Addr) (c : Nat) (l : List Int) (s m : Nat) (w : World) (hr : Kd.C (Kd.int .i64) w A l.length l) (hc : l.length ≤ c) (hg : B.goodB l = true) (hs : s < 4294967296) (hm : m < 4294967296) :
    Calls Try.prog 10 #[.agg #[.int .u32 (s : Int), .int .u32 (m : Int), .slice A l.length c]] w fun e w' => e = .returned (.tuple #[.string (strOfNums (B.packI (B.nackBits s m l))), .int .i64 0]) ∧ Below w.heap.size w w' := by
  obtain ⟨hup, hl0, hl1⟩ := B.goodB_up l hg
  have HG := Aside0.mk hg
  have HUP := Aside0.mk hup
  have HR := Aside0.mk hr
  clear hg hr hup
  go_enter Try.func10, Try.ntmps10
  go_wp2_with fail
  have hB0 : Below w.heap.size w (w.alloc (.cells #[.int .u32 (s : Int), .int .u32 (m : Int), .slice A l.length c] 25)) := (Below.refl _ _).alloc (Nat.le_refl _) _
  refine (nack_fault.calls A c l _ _ (Kd.C_below HR.out hB0) hc rfl).mono ?_
  rintro e w1 ⟨rfl, ⟨⟨nd, rfl⟩⟩⟩
  rw [if_neg (by omega), if_pos HG.out]
  have hB1 : Below w.heap.size w ((w.alloc (.cells #[.int .u32 (s : Int), .int .u32 (m : Int), .slice A l.length c] 25)).drewN nd) := pw_below_drewN hB0 nd
  have hK1 : ((w.alloc (.cells #[.int .u32 (s : Int), .int .u32 (m : Int), .slice A l.length c] 25)).drewN nd).heap[w.heap.size]? = some (.cells #[.int .u32 (s : Int), .int .u32 (m : Int), .slice A l.length c] 25 (0, 0)) := blk_drewN (blk_new w _) nd
  generalize (w.alloc (.cells #[.int .u32 (s : Int), .int .u32 (m : Int), .slice A l.length c] 25)).drewN nd = w1 at *
  clear hB0
  obtain ⟨b, hb⟩ : ∃ b, w.heap.size = b := ⟨_, rfl⟩
  rw [hb] at hB1 hK1 ⊢
  have HBW := Aside0.mk hb
  clear hb
  have k0 := blk_cell hK1 0
  have k1 := blk_cell hK1 1
  have k2 := blk_cell hK1 2
  simp only [List.getElem?_toArray, List.getElem?_cons_zero, List.getElem?_cons_succ] at k0 k1 k2
  have hbl := blk_lt hK1
  have HK1 := Aside0.mk hK1
  clear hK1
  go_wp2_with fail
  refine (B.write_any _).mono ?_
  rintro e w2 ⟨rfl, hW2, hB2⟩
  obtain ⟨p, hp⟩ : ∃ p, w1.heap.size = p := ⟨_, rfl⟩
  rw [hp] at hW2 hB2 hbl ⊢
  clear hp
  have hK2 := (hB2.block b hbl).trans HK1.out
  have q1 := blk_cell hK2 0
  simp only [List.getElem?_toArray, List.getElem?_cons_zero, List.getElem?_cons_succ] at q1
  have hB1' : Below b w w2 := hB1.trans (hB2.mono (by omega))
  clear k0 k1 k2 hB1 hB2
  have HK2 := Aside0.mk hK2
  clear hK2 HK1
  go_wp2_with fail
  refine (B.put_any w2 p [] s 32 hW2 hs (by omega) (by simp)).mono ?_
  rintro e w3 ⟨rfl, hW3, hB3⟩
  have hK3 := (hB3.block b hbl).trans HK2.out
  have q2 := blk_cell hK3 1
  simp only [List.getElem?_toArray, List.getElem?_cons_zero, List.getElem?_cons_succ] at q2
  have hB2' : Below b w w3 := hB1'.trans (hB3.mono (by omega))
  have HK3 := Aside0.mk hK3
  clear hK3 HK2 q1 hW2 hB1' hB3
  go_wp2_with fail
  refine (B.put_any w3 p _ m 32 hW3 hm (by omega) (by simp [B.toBits_length])).mono ?_
  rintro e w4 ⟨rfl, hW4, hB4⟩
  have hK4 := (hB4.block b hbl).trans HK3.out
  have q3 := blk_cell hK4 2
  simp only [List.getElem?_toArray, List.getElem?_cons_zero, List.getElem?_cons_succ] at q3
  have hB3' : Below b w w4 := hB2'.trans (hB4.mono (by omega))
  have hbits : ([] ++ B.toBits 32 s ++ B.toBits 32 m).length = 64 := by simp [B.toBits_length]
  obtain ⟨bits0, hbits0⟩ : ∃ bs, [] ++ B.toBits 32 s ++ B.toBits 32 m = bs := ⟨_, rfl⟩
  rw [hbits0] at hW4 hbits
  have HB0 := Aside0.mk (show B.nackBits s m l = bits0 ++ B.entBits l.length l from by unfold B.nackBits; rw [← hbits0]; simp)
  have HBL := Aside0.mk hbits
  clear HK3 q2 hW3 hB2' hB4 hK4 hbits hbits0
  go_wp2
  go_loopw [5] (fun v wr => ∃ (A' : Option Addr) (c' : Nat) (l' : List Int) (bs : List Bool), v = .slice A' l'.length c' ∧ l'.length ≤ c' ∧ l'.length ≤ l.length ∧ Kd.C (Kd.int .i64) w A' l'.length l' ∧ B.Up l' ∧ bs ++ B.entBits l'.length l' = B.nackBits s m l ∧ bs.length + 32 * l'.length ≤ 64 + 32 * l.length ∧ B.WrIs wr p 64 5 bs ∧ Below b w wr) (fun v _ => match v with | .slice _ n _ => n | _ => 0)
  case atStart => exact ⟨A, c, l, bits0, rfl, hc, Nat.le_refl _, HR.out, HUP.out, HB0.out.symm, by rw [HBL.out]; omega, hW4, hB3'⟩
  case round =>
    obtain ⟨A', c', l', bs, rfl, hc', hll, hC', hup', hbs, hbl', hWr, hBr⟩ := hrel
    have hCr : Kd.C (Kd.int .i64) wr A' l'.length l' := Kd.C_below hC' (by rw [HBW.out]; exact hBr)
    have HC' := Aside0.mk hC'
    have HWr := Aside0.mk hWr
    have HBr := Aside0.mk hBr
    have HBS := Aside0.mk hbs
    have HUP' := Aside0.mk hup'
    clear hC' hWr hBr hbs hup'
    by_cases hpos : 0 < l'.length
    · obtain ⟨ad, hA', hx0⟩ := Kd.at_int hCr 0 (by omega) (by omega)
      subst hA'
      rw [show (0 : Int).toNat = 0 from rfl, Go.Addr.add_zero'] at hx0
      obtain ⟨x, hx⟩ : ∃ x, rd l' 0 = x := ⟨_, rfl⟩
      rw [hx] at hx0
      have hxi : l'[0] = x := by rw [← hx]; simp [rd, List.getD_eq_getElem?_getD, List.getElem?_eq_getElem hpos]
      have hxb : 0 ≤ x ∧ x < 65536 := by rw [← hxi]; exact HUP'.out.1 _ (List.getElem_mem hpos)
      obtain ⟨xn, rfl⟩ : ∃ n : Nat, x = (n : Int) := ⟨x.toNat, by omega⟩
      have HX := Aside0.mk hxi
      have HL' : Aside0 (l' = (xn : Int) :: l'.drop 1) := ⟨by rw [← hxi]; simpa using List.drop_eq_getElem_cons hpos⟩
      clear hxi
      have hdl : decide (0 < l'.length) = true := decide_eq_true hpos
      clear hx
      go_wp2
      go_loopw [6, 7] (fun mv iv wi => ∃ mk i : Nat, mv = .int .u32 (mk : Int) ∧ iv = .int .i64 (i : Int) ∧ 1 ≤ i ∧ i ≤ l'.length ∧ mk < 65536 ∧ B.takeMask (xn : Int) mk (l'.drop i) = B.takeMask (xn : Int) 0 (l'.drop 1) ∧ Drawn0 wr wi) (fun _ iv _ => l'.length - (intOf iv).toNat)
      case atStart => exact ⟨0, 1, rfl, rfl, by omega, by omega, by omega, rfl, Drawn0.refl _⟩
      case round =>
        obtain ⟨mk, i, rfl, rfl, hi1, hi2, hmk, htm, hD⟩ := hrel
        obtain ⟨ndi, rfl⟩ := hD.out
        clear hD
        have HTM := Aside0.mk htm
        clear htm
        refine (Nat.lt_or_ge i l'.length).elim (fun hlt => ?inside) (fun hlt => ?done)
        case' inside =>
          have hdi : decide ((i : Int) < (l'.length : Int)) = true := decide_eq_true (by omega)
          obtain ⟨ad2, hA2, hy0⟩ := Kd.at_int hCr (i : Int) (by omega) (by omega)
          cases hA2
          rw [show ((i : Int)).toNat = i from by omega] at hy0
          obtain ⟨y, hy⟩ : ∃ y, rd l' (i : Int) = y := ⟨_, rfl⟩
          rw [hy] at hy0
          have hyi : l'[i] = y := by rw [← hy]; simp [rd, List.getD_eq_getElem?_getD, List.getElem?_eq_getElem hlt]
          have hxi := HX.out
          have hyb : 0 ≤ y ∧ y < 65536 := by rw [← hyi]; exact HUP'.out.1 _ (List.getElem_mem hlt)
          have hdxy : 1 ≤ B.dist (xn : Int) y := by
            have := (List.pairwise_iff_getElem.1 HUP'.out.2) 0 i hpos hlt (by omega)
            rw [hxi, hyi] at this
            exact this.1
          have hdr : l'.drop i = y :: l'.drop (i + 1) := by rw [List.drop_eq_getElem_cons hlt, hyi]
          have HC := Aside0.mk (show wrap_Cut.f (IntKind.i64.wrap (y - (xn : Int))) 16 = some (B.dist (xn : Int) y) from (wrap_Cut.at16 _).trans (congrArg some (by unfold B.dist; rw [IntKind.wrap_i64]; omega)))
          obtain ⟨D, hDD⟩ : ∃ D, B.dist (xn : Int) y = D := ⟨_, rfl⟩
          rw [hDD] at HC hdxy
          have HDD := Aside0.mk hDD
          have HDR := Aside0.mk hdr
          clear hy hyi hxi hDD hdr
          refine (Int.lt_or_le 16 D).elim (fun h16 => ?far) (fun h16 => ?near)
        case near =>
          have hd16 : decide (16 < D) = false := decide_eq_false (by omega)
          obtain ⟨dn, rfl⟩ : ∃ n : Nat, D = (n : Int) := ⟨D.toNat, by omega⟩
          have hp16 : (2 : Nat) ^ (dn - 1) < 2 ^ 16 := Nat.pow_lt_pow_right (by omega) (by omega)
          have H2 : Aside0 ((2 : Int) ^ (dn - 1) % 4294967296 = ((2 ^ (dn - 1) : Nat) : Int)) := ⟨by
            have e2 : ((2 : Int) ^ (dn - 1)) = ((2 ^ (dn - 1) : Nat) : Int) := by rw [Int.natCast_pow]; rfl
            rw [e2]
            generalize 2 ^ (dn - 1) = z at hp16 ⊢
            omega⟩
          have HOR := or_u32_nat mk (2 ^ (dn - 1)) (by omega) (by omega)
          have HMK : Aside0 (mk ||| 2 ^ (dn - 1) < 65536) := ⟨Nat.or_lt_two_pow (n := 16) hmk hp16⟩
          go_wp2
          go_region_law (go_loud (refine goes_ (N := some 41) Try.func19 rfl rfl #[.int .i64 (IntKind.i64.wrap (y - (xn : Int))), .int .i64 16] rfl rfl rfl ?_ ?_); go_loud (simp only [List.map_toArray, List.map_cons, List.map_nil]); rfl; go_loud (refine (wrap_Cut.calls _ 16 (dn : Int) _ HC.out).mono ?_); rintro e w9 ⟨rfl, ⟨⟨nd9, rfl⟩⟩⟩; refine ⟨_, rfl, ?_⟩)
          all_goals
            go_wp2
            refine ⟨⟨mk ||| 2 ^ (dn - 1), i + 1, ?_, rfl, by omega, by omega, HMK.out, ?_, ⟨_, rfl⟩⟩, ?_⟩
            · rw [H2.out, HOR]
            · rw [← HTM.out, HDR.out]
              conv => rhs; unfold B.takeMask
              rw [if_neg (by rw [HDD.out]; omega), HDD.out]
              rfl
            · simp [intOf]
              omega
        case' far =>
          have hd16 : decide (16 < D) = true := decide_eq_true h16
          have HEND : Aside0 (B.takeMask (xn : Int) mk (l'.drop i) = (mk, l'.drop i)) := ⟨by rw [HDR.out]; unfold B.takeMask; rw [if_pos (by rw [HDD.out]; exact h16)]⟩
          go_wp2
          go_region_law (go_loud (refine goes_ (N := some 41) Try.func19 rfl rfl #[.int .i64 (IntKind.i64.wrap (y - (xn : Int))), .int .i64 16] rfl rfl rfl ?_ ?_); go_loud (simp only [List.map_toArray, List.map_cons, List.map_nil]); rfl; go_loud (refine (wrap_Cut.calls _ 16 D _ HC.out).mono ?_); rintro e w9 ⟨rfl, ⟨⟨nd9, rfl⟩⟩⟩; refine ⟨_, rfl, ?_⟩)
          all_goals
            go_wp2_with fail
            obtain ⟨k, hk⟩ : ∃ k, ndi + 1 + nd9 = k := ⟨_, rfl⟩
            rw [hk]
        case' done =>
          have hdi : decide ((i : Int) < (l'.length : Int)) = false := decide_eq_false (by omega)
          have HEND : Aside0 (B.takeMask (xn : Int) mk (l'.drop i) = (mk, l'.drop i)) := ⟨by rw [List.drop_eq_nil_of_le hlt]; rfl⟩
          go_wp2_with fail
          obtain ⟨k, hk⟩ : ∃ k, ndi = k := ⟨_, rfl⟩
          rw [hk]
        all_goals
          refine (B.put_any (wr.drewN k) p bs xn 16 (show B.WrIs (wr.drewN k) p _ _ bs from HWr.out) (by omega) (by omega) (by omega)).mono ?_
          rintro e w5 ⟨rfl, hW5, hB5⟩
          go_wp2_with fail
          refine (B.put_any w5 p _ mk 16 hW5 (by omega) (by omega) (by rw [List.length_append, B.toBits_length]; omega)).mono ?_
          rintro e w6 ⟨rfl, hW6, hB6⟩
          go_wp2
          go_roundw
          case rel =>
            have hCd := Kd.C_drop (m := i) HC'.out hi2 hc'
            have hbt : B.entBits l'.length l' = B.toBits 16 xn ++ (B.toBits 16 mk ++ B.entBits (l'.drop i).length (l'.drop i)) := by
              have h1 : B.takeMask (xn : Int) 0 (l'.drop 1) = (mk, l'.drop i) := HTM.out.symm.trans HEND.out
              obtain ⟨q, hq⟩ : ∃ q, l'.length = q + 1 := ⟨l'.length - 1, by omega⟩
              rw [hq]
              conv => lhs; rw [HL'.out]
              simp only [B.entBits, Int.toNat_natCast, h1]
              rw [B.entBits_more q (l'.drop i) (by rw [List.length_drop]; omega)]
            refine ⟨_, c' - i, l'.drop i, _, ?_, by rw [List.length_drop]; omega, by rw [List.length_drop]; omega, hCd, HUP'.out.drop i, ?_, ?_, hW6, ?_⟩
            · rw [show (List.drop i l').length = l'.length - i from List.length_drop, show i * (Kd.int IntKind.i64).sz = i from Nat.mul_one i]
              first
                | (rw [if_neg (by omega)]; rfl)
                | (rw [show l'.length - i = 0 by omega]; rfl)
            · rw [← HBS.out, hbt]; simp
            · simp only [List.length_append, B.toBits_length, List.length_drop]; omega
            · exact ((pw_below_drewN HBr.out k).trans (hB5.mono (by omega))).trans (hB6.mono (by omega))
          case measure =>
            first
              | (show l'.length - i < l'.length; omega)
              | (show 0 < l'.length; omega)
    · go_wp2_with fail
      refine (B.text_any _ _ _ HWr.out).mono ?_
      rintro e w9 ⟨rfl, rfl⟩
      go_wp2
      go_ret2
      have hl0' : l' = [] := List.eq_nil_of_length_eq_zero (by omega)
      subst hl0'
      have hbs := HBS.out
      simp only [List.length_nil, B.entBits, List.append_nil] at hbs
      rw [hbs, HBW.out]
      exact ⟨rfl, HBr.out⟩
theorem nack_Encode.early (A : Option Addr) (c : Nat) (l : List Int) (s m : Nat) (w : World) (hr : Kd.C (Kd.int .i64) w A l.length l) (hc : l.length ≤ c) (hg : ¬ B.goodB l = true) (hs : s < 4294967296) (hm : m < 4294967296) :
    Calls Try.prog 10 #[.agg #[.int .u32 (s : Int), .int .u32 (m : Int), .slice A l.length c]] w fun e w' => e = .returned (.tuple #[.string ⟨#[]⟩, .int .i64 1]) ∧ Below w.heap.size w w' := by
  have HG := Aside0.mk hg
  have HR := Aside0.mk hr
  clear hg hr
  go_enter Try.func10, Try.ntmps10
  go_wp2_with fail
  have hB0 : Below w.heap.size w (w.alloc (.cells #[.int .u32 (s : Int), .int .u32 (m : Int), .slice A l.length c] 25)) := (Below.refl _ _).alloc (Nat.le_refl _) _
  have hz : ∃ z : Int, z ≠ 0 ∧ (if 4096 < l.length then (3 : Int) else if B.goodB l = true then 0 else 110) = z := by
    refine ⟨_, ?_, rfl⟩
    rw [if_neg HG.out]
    split <;> omega
  obtain ⟨z, hz0, hz1⟩ := hz
  refine (nack_fault.calls A c l z _ (Kd.C_below HR.out hB0) hc (congrArg some hz1)).mono ?_
  rintro e w1 ⟨rfl, ⟨⟨nd, rfl⟩⟩⟩
  have hB1 := pw_below_drewN hB0 nd
  clear hz1
  have hzb : (z != 0) = true := by simpa using hz0
  have hzb' : (z == 0) = false := by simpa using hz0
  go_wp2
  go_ret2
  exact ⟨rfl, hB1⟩
theorem nack_Encode.calls (a0_0 : Int) (a0_1 : Int) (A0_2 : Option Addr) (c0_2 : Nat) (l0_2 : List Int) (r1 : ByteArray) (r2 : Int) (w : World) (hr0_2 : Kd.C (Kd.int .i64) w A0_2 l0_2.length l0_2) (hc0_2 : l0_2.length ≤ c0_2) (h : nack_Encode.f a0_0 a0_1 l0_2 = some (r1, r2)) :
    Calls Try.prog 10 #[.agg #[.int .u32 a0_0, .int .u32 a0_1, .slice A0_2 l0_2.length c0_2]] w fun e w' => e = .returned (.tuple #[.string r1, .int .i64 r2]) ∧ Below w.heap.size w w' := by
  unfold nack_Encode.f at h
  by_cases h1 : 0 ≤ a0_0
  · by_cases h2 : a0_0 < 4294967296
    · by_cases h3 : 0 ≤ a0_1
      · by_cases h4 : a0_1 < 4294967296
        · rw [if_pos h1, if_pos h2, if_pos h3, if_pos h4] at h
          have h := Option.some.inj h
          obtain ⟨s, rfl⟩ : ∃ s : Nat, a0_0 = s := ⟨a0_0.toNat, by omega⟩
          obtain ⟨m, rfl⟩ : ∃ s : Nat, a0_1 = s := ⟨a0_1.toNat, by omega⟩
          by_cases hg : B.goodB l0_2 = true
          · unfold B.nackEnc at h
            rw [if_pos hg] at h
            simp only [Prod.mk.injEq, Int.toNat_natCast] at h
            obtain ⟨rfl, rfl⟩ := h
            exact nack_Encode.main A0_2 c0_2 l0_2 s m w hr0_2 hc0_2 hg (by omega) (by omega)
          · unfold B.nackEnc at h
            rw [if_neg hg] at h
            simp only [Prod.mk.injEq] at h
            obtain ⟨rfl, rfl⟩ := h
            exact nack_Encode.early A0_2 c0_2 l0_2 s m w hr0_2 hc0_2 hg (by omega) (by omega)
        · rw [if_pos h1, if_pos h2, if_pos h3, if_neg h4] at h; cases h
      · rw [if_pos h1, if_pos h2, if_neg h3] at h; cases h
    · rw [if_pos h1, if_neg h2] at h; cases h
  · rw [if_neg h1] at h; cases h

/-- A state of type 73 at block g of W; what its slices lead to came in by w0. -/
def IsS73 (w0 W : World) (g : Nat) (f0 : ByteArray) (f1 : Int) (f2 : Bool) : Prop := W.heap[g]? = some (.cells #[.string f0, .int .i64 f1, .bool f2] 73 (0, 0)) ∧ w0.heap.size ≤ g
theorem IsS73.grown {w0 W : World} {g : Nat} {f0 : ByteArray} {f1 : Int} {f2 : Bool} {W1 : World} {row : Option Nat} (h : IsS73 w0 W g f0 f1 f2) (hw : W.grownBy W1 row) (hne : some g ≠ row) : IsS73 w0 W1 g f0 f1 f2 := by
  obtain ⟨hb, hg⟩ := h
  exact ⟨blk_grown hb hw hne, hg⟩
theorem IsS73.own_neN {w0 W : World} {g : Nat} {f0 : ByteArray} {f1 : Int} {f2 : Bool} {α : Type} {d : Kd α} {e : Nat} {base : Nat} {ok : Nat → Prop} {v : Value} {xs : List α} (h : IsS73 w0 W g f0 f1 f2) (ho : Kd.N d e W base ok v xs) (ht : e ≠ 73) : some g ≠ v.ownBlock := by
  obtain ⟨hb, hg⟩ := h
  exact Kd.N_ne ho hb ht
theorem IsS73.fresh {w0 W : World} {g : Nat} {f0 : ByteArray} {f1 : Int} {f2 : Bool} (h : IsS73 w0 W g f0 f1 f2) : ∀ k, W.heap.size ≤ k → k ≠ g := by
  obtain ⟨hb, hg⟩ := h
  exact Kd.freshB hb
theorem IsS73.kept {w0 W : World} {g : Nat} {f0 : ByteArray} {f1 : Int} {f2 : Bool} {W1 : World} {S : Nat → Prop} (h : IsS73 w0 W g f0 f1 f2) (hk : Kept W W1 S) (hne : ¬ S g) : IsS73 w0 W1 g f0 f1 f2 := by
  obtain ⟨hb, hg⟩ := h
  exact ⟨blk_kept hb hk hne, hg⟩
theorem IsS73.below {w0 W : World} {g : Nat} {f0 : ByteArray} {f1 : Int} {f2 : Bool} {W1 : World} (h : IsS73 w0 W g f0 f1 f2) (hw : Below W.heap.size W W1) : IsS73 w0 W1 g f0 f1 f2 := h.grown (grown_of_below hw none) (by simp)
theorem IsS73.alloc {w0 W : World} {g : Nat} {f0 : ByteArray} {f1 : Int} {f2 : Bool} (h : IsS73 w0 W g f0 f1 f2) (o : Obj) : IsS73 w0 (W.alloc o) g f0 f1 f2 := h.below (below_alloc (Below.refl _ _) o)
theorem IsS73.drewN {w0 W : World} {g : Nat} {f0 : ByteArray} {f1 : Int} {f2 : Bool} (h : IsS73 w0 W g f0 f1 f2) (m : Nat) : IsS73 w0 (W.drewN m) g f0 f1 f2 := h
theorem IsS73.drew {w0 W : World} {g : Nat} {f0 : ByteArray} {f1 : Int} {f2 : Bool} (h : IsS73 w0 W g f0 f1 f2) : IsS73 w0 W.drew g f0 f1 f2 := h
theorem IsS73.at_ {w0 W : World} {g : Nat} {f0 : ByteArray} {f1 : Int} {f2 : Bool} {w' : World} {m : Nat} (hq : W.drewN m = w') (h : IsS73 w0 W g f0 f1 f2) : IsS73 w0 w' g f0 f1 f2 := by subst hq; exact IsS73.drewN h m
theorem IsS73.apart {w0 W : World} {g : Nat} {f0 : ByteArray} {f1 : Int} {f2 : Bool} {α : Type} {d : Kd α} {e : Nat} {base : Nat} {ok : Nat → Prop} {v : Value} {xs : List α} (h : IsS73 w0 W g f0 f1 f2) (ho : d.R e W base ok v xs) (ht : ∀ q, q ∈ e :: d.E → q ≠ 73) : d.R e W base (fun k => ok k ∧ k ≠ g) v xs := by
  obtain ⟨hb, hg⟩ := h
  exact Kd.R_types ho hb ht
theorem IsS73.own_ne {w0 W : World} {g : Nat} {f0 : ByteArray} {f1 : Int} {f2 : Bool} {α : Type} {d : Kd α} {e : Nat} {base : Nat} {ok : Nat → Prop} {v : Value} {xs : List α} (h : IsS73 w0 W g f0 f1 f2) (ho : d.R e W base ok v xs) (ht : e ≠ 73) : some g ≠ v.ownBlock := by
  obtain ⟨hb, hg⟩ := h
  exact Kd.R_ne ho hb ht
theorem IsS73.apartQ {w0 W : World} {g : Nat} {f0 : ByteArray} {f1 : Int} {f2 : Bool} {α : Type} {d : Kd α} {e : Nat} {base : Nat} {ok : Nat → Prop} {v : Value} {xs : List α} (h : IsS73 w0 W g f0 f1 f2) (ho : d.Q e W base ok v xs) (ht : ∀ q, q ∈ e :: d.E → q ≠ 73) : d.Q e W base (fun k => ok k ∧ k ≠ g) v xs := by
  obtain ⟨hb, hg⟩ := h
  exact Kd.Q_types ho hb ht
theorem IsS73.own_neQ {w0 W : World} {g : Nat} {f0 : ByteArray} {f1 : Int} {f2 : Bool} {α : Type} {d : Kd α} {e : Nat} {base : Nat} {ok : Nat → Prop} {v : Value} {xs : List α} (h : IsS73 w0 W g f0 f1 f2) (ho : d.Q e W base ok v xs) (ht : e ≠ 73) : some g ≠ v.ownBlock := by
  obtain ⟨hb, hg⟩ := h
  exact Kd.Q_ne ho hb ht
theorem IsS73.apartS {w0 W : World} {g : Nat} {f0 : ByteArray} {f1 : Int} {f2 : Bool} {α : Type} {d : Kd α} {e : Nat} {base : Nat} {ok : Nat → Prop} {v : Value} {xs : List α} (h : IsS73 w0 W g f0 f1 f2) (ho : d.S e W base ok v xs) (ht : ∀ q, q ∈ e :: d.E → q ≠ 73) : d.S e W base (fun k => ok k ∧ k ≠ g) v xs := by
  obtain ⟨hb, hg⟩ := h
  exact Kd.S_types ho hb ht
theorem IsS73.own_neS {w0 W : World} {g : Nat} {f0 : ByteArray} {f1 : Int} {f2 : Bool} {α : Type} {d : Kd α} {e : Nat} {base : Nat} {ok : Nat → Prop} {v : Value} {xs : List α} (h : IsS73 w0 W g f0 f1 f2) (ho : d.S e W base ok v xs) (ht : e ≠ 73) : some g ≠ v.ownBlock := by
  obtain ⟨hb, hg⟩ := h
  exact Kd.S_ne ho hb ht
theorem IsS73.lt {w0 W : World} {g : Nat} {f0 : ByteArray} {f1 : Int} {f2 : Bool} (h : IsS73 w0 W g f0 f1 f2) : g < W.heap.size := by
  obtain ⟨hb, hg⟩ := h
  exact blk_lt hb
theorem IsS73.ge {w0 W : World} {g : Nat} {f0 : ByteArray} {f1 : Int} {f2 : Bool} (h : IsS73 w0 W g f0 f1 f2) : w0.heap.size ≤ g := by
  obtain ⟨hb, hg⟩ := h
  exact hg
theorem IsS73.ne_blk {w0 W : World} {g : Nat} {f0 : ByteArray} {f1 : Int} {f2 : Bool} {a : Nat} {cs : Array Value} {t : TypeId} {fr : Nat × Nat} (h : IsS73 w0 W g f0 f1 f2) (hb2 : W.heap[a]? = some (.cells cs t fr)) (ht : t ≠ 73) : g ≠ a := by
  obtain ⟨hb, hg⟩ := h
  rintro rfl
  rw [hb] at hb2
  injection hb2 with hb2
  injection hb2 with _ ht2
  exact ht ht2.symm
theorem IsS73.far {w0 W : World} {g : Nat} {f0 : ByteArray} {f1 : Int} {f2 : Bool} {p : Addr} (h : IsS73 w0 W g f0 f1 f2) (hne : g ≠ p.block) (u : Value) : IsS73 w0 (W.setCell p u) g f0 f1 f2 := by
  obtain ⟨hb, hg⟩ := h
  exact ⟨blk_far hb hne u, hg⟩
theorem cellS73_0 {W : World} {g : Nat} {f0 : ByteArray} {f1 : Int} {f2 : Bool} (h : W.heap[g]? = some (.cells #[.string f0, .int .i64 f1, .bool f2] 73 (0, 0))) : W.cell? ⟨g, 0, none⟩ = some (.string f0) := (blk_cell h 0).trans rfl
theorem IsS73.set_0 {w0 W : World} {g : Nat} {f0 : ByteArray} {f1 : Int} {f2 : Bool} (h : IsS73 w0 W g f0 f1 f2) (x : ByteArray) : IsS73 w0 (W.setCell ⟨g, 0, none⟩ (.string x)) g x f1 f2 := by
  obtain ⟨hb, hg⟩ := h
  exact ⟨by simpa using blk_set hb 0 (.string x), hg⟩
theorem cellS73_1 {W : World} {g : Nat} {f0 : ByteArray} {f1 : Int} {f2 : Bool} (h : W.heap[g]? = some (.cells #[.string f0, .int .i64 f1, .bool f2] 73 (0, 0))) : W.cell? ⟨g, 1, none⟩ = some (.int .i64 f1) := (blk_cell h 1).trans rfl
theorem IsS73.set_1 {w0 W : World} {g : Nat} {f0 : ByteArray} {f1 : Int} {f2 : Bool} (h : IsS73 w0 W g f0 f1 f2) (x : Int) : IsS73 w0 (W.setCell ⟨g, 1, none⟩ (.int .i64 x)) g f0 x f2 := by
  obtain ⟨hb, hg⟩ := h
  exact ⟨by simpa using blk_set hb 1 (.int .i64 x), hg⟩
theorem cellS73_2 {W : World} {g : Nat} {f0 : ByteArray} {f1 : Int} {f2 : Bool} (h : W.heap[g]? = some (.cells #[.string f0, .int .i64 f1, .bool f2] 73 (0, 0))) : W.cell? ⟨g, 2, none⟩ = some (.bool f2) := (blk_cell h 2).trans rfl
theorem IsS73.set_2 {w0 W : World} {g : Nat} {f0 : ByteArray} {f1 : Int} {f2 : Bool} (h : IsS73 w0 W g f0 f1 f2) (x : Bool) : IsS73 w0 (W.setCell ⟨g, 2, none⟩ (.bool x)) g f0 f1 x := by
  obtain ⟨hb, hg⟩ := h
  exact ⟨by simpa using blk_set hb 2 (.bool x), hg⟩
theorem IsS73.new (w0 W : World) (f0 : ByteArray) (f1 : Int) (f2 : Bool) (hB : Below w0.heap.size w0 W) : IsS73 w0 (W.alloc (.cells #[.string f0, .int .i64 f1, .bool f2] 73)) W.heap.size f0 f1 f2 := ⟨by simpa using heap_alloc_new W _, hB.size⟩

/-! ### bits_Read: function 26 -/
def bits_Read.f (a0 : ByteArray) : Option (ByteArray × Int × Bool) := some (a0, 0, false)
set_option maxHeartbeats 8000000 in
set_option maxRecDepth 100000 in
theorem bits_Read.calls (a0 : ByteArray) (r1 : ByteArray) (r2 : Int) (r3 : Bool) (w0 w : World) (hB : Below w0.heap.size w0 w) (h : bits_Read.f a0 = some (r1, r2, r3)) :
    Calls Try.prog 26 #[.string a0] w fun e w' => ∃ g_ : Nat, e = .returned (.pointer (some ⟨g_, 0, none⟩)) ∧ IsS73 w0 w' g_ r1 r2 r3 ∧ Below w0.heap.size w0 w' ∧ Below w.heap.size w w' := by
  have hu73 := Try.underlying73
  have HBW := Aside0.mk (Below.refl w.heap.size w)
  have HW0 := Aside0.mk hB.size
  have HB := Aside0.mk hB
  clear hB
  have H : (some (a0, 0, false)) = some (r1, r2, r3) := h
  clear h
  simp only [Option.some.injEq, Prod.mk.injEq] at H
  obtain ⟨rfl, rfl, rfl⟩ := H
  go_enter Try.func26, Try.ntmps26
  go_wp2_with (first | ((with_reducible refine gate_dst (N := 5) rfl ?_); refine box_event ?hg (N := 5) ?hd (cs := #[.string a0, .int .i64 0, .bool false]) (t := 73) ?hr ?_; (case hd => rfl); (case hg => rfl); (case hr => first | (go_simp; done) | (go_simp; rfl)); intro gb111 hg w2 hbox hb; have n0_ := Aside0.mk (below_step HBW.out hb); have n1_ := Aside0.mk (below_step (by repeat (first | (with_reducible first | exact HB.out | apply below_alloc | apply pw_below_drewN | apply below_drew1) | exact HB.out)) hb); have n2_ := Aside0.mk (hbox); have n3_ := Aside0.mk ((by rw [hg]; exact (below_size (by repeat (first | (with_reducible first | exact HBW.out | apply below_alloc | apply pw_below_drewN | apply below_drew1) | exact HBW.out))) : w.heap.size ≤ gb111)); have n4_ := Aside0.mk ((Nat.le_trans HW0.out (by rw [hg]; exact (below_size (by repeat (first | (with_reducible first | exact HBW.out | apply below_alloc | apply pw_below_drewN | apply below_drew1) | exact HBW.out))) : w.heap.size ≤ gb111) : w0.heap.size ≤ gb111)); clear HBW; clear HB; have HBW := n0_; have HB := n1_; have BK111 := n2_; have GW111 := n3_; have GE111 := n4_; clear n0_ n1_ n2_ n3_ n4_; clear hb hbox hg))
  go_ret
  exact ⟨_, rfl, (show IsS73 w0 _ gb111 a0 0 false from ⟨by (with_reducible repeat (first | refine blk_drewN ?_ _ | refine blk_drew ?_ | refine blk_alloc ?_ _)); exact BK111.out, GE111.out⟩), by repeat (first | (with_reducible first | exact HB.out | apply below_alloc | apply pw_below_drewN | apply below_drew1 | refine below_set ?_ GE111.out) | exact HB.out), by repeat (first | (with_reducible first | exact HBW.out | apply below_alloc | apply pw_below_drewN | apply below_drew1 | refine below_set ?_ GW111.out) | exact HBW.out)⟩

/-! ### bits_Reader_Get: function 27 -/
def bits_Reader_Get.f (s0_0 : ByteArray) (s0_1 : Int) (s0_2 : Bool) (a1 : Int) : Option (Int × ByteArray × Int × Bool) := if s0_0.size ≤ 1000000000000 then (if 0 ≤ s0_1 then (if s0_1 ≤ 8 * (s0_0.size : Int) then (some (B.getR s0_0 s0_1 s0_2 a1)) else (none)) else (none)) else (none)
theorem bits_Reader_Get.calls (g : Nat) (s0_0 : ByteArray) (s0_1 : Int) (s0_2 : Bool) (a1 : Int) (r1 : Int) (r2 : ByteArray) (r3 : Int) (r4 : Bool) (w0 w : World) (hI : IsS73 w0 w g s0_0 s0_1 s0_2) (hB : Below w0.heap.size w0 w) (h : bits_Reader_Get.f s0_0 s0_1 s0_2 a1 = some (r1, r2, r3, r4)) :
    Calls Try.prog 27 #[.pointer (some ⟨g, 0, none⟩), .int .i64 a1] w fun e w' => e = .returned (.int .u32 r1) ∧ IsS73 w0 w' g r2 r3 r4 ∧ Below w0.heap.size w0 w' ∧ KeepBut w w' g none := by
  unfold bits_Reader_Get.f at h
  by_cases c1 : s0_0.size ≤ 1000000000000
  · rw [if_pos c1] at h
    by_cases c2 : 0 ≤ s0_1
    · rw [if_pos c2] at h
      by_cases c3 : s0_1 ≤ 8 * (s0_0.size : Int)
      · rw [if_pos c3] at h
        have h := Option.some.inj h
        have hr2 : r2 = s0_0 := by
          have := congrArg (fun x => x.2.1) h
          simp only [B.getR] at this
          split at this <;> exact this.symm
        refine (B.get_any w g s0_0 s0_1 a1 s0_2 hI.1 c1 ⟨c2, c3⟩).mono ?_
        rintro e w1 ⟨rfl, hR, hG⟩
        rw [h] at hR
        subst hr2
        exact ⟨by rw [h], ⟨hR, hI.2⟩, hB.grown hG hB.size (fun k hk => by have := Option.some.inj hk; subst this; exact hI.2), ⟨hG.size, fun i hi hg _ => hG.block i hi (fun e => hg (Option.some.inj e))⟩⟩
      · rw [if_neg c3] at h; cases h
    · rw [if_neg c2] at h; cases h
  · rw [if_neg c1] at h; cases h

/-! ### bits_Reader_Left: function 28 -/
def bits_Reader_Left.f (s0_0 : ByteArray) (s0_1 : Int) (s0_2 : Bool) : Option (Int × ByteArray × Int × Bool) := if s0_2 = true then (some (0, s0_0, s0_1, s0_2)) else (some (wrap64 ((wrap64 (8 * (s0_0.size : Int))) - s0_1), s0_0, s0_1, s0_2))
set_option maxHeartbeats 8000000 in
set_option maxRecDepth 100000 in
theorem bits_Reader_Left.calls (g : Nat) (s0_0 : ByteArray) (s0_1 : Int) (s0_2 : Bool) (r1 : Int) (r2 : ByteArray) (r3 : Int) (r4 : Bool) (w0 w : World) (hI : IsS73 w0 w g s0_0 s0_1 s0_2) (hB : Below w0.heap.size w0 w) (h : bits_Reader_Left.f s0_0 s0_1 s0_2 = some (r1, r2, r3, r4)) :
    Calls Try.prog 28 #[.pointer (some ⟨g, 0, none⟩)] w fun e w' => e = .returned (.int .i64 r1) ∧ IsS73 w0 w' g r2 r3 r4 ∧ Below w0.heap.size w0 w' ∧ KeepBut w w' g none := by
  have HI0 := Aside0.mk hI
  have HK := Aside0.mk (KeepBut.refl w g none)
  have HL := Aside0.mk hB.size
  clear hI
  have HW0 := Aside0.mk hB.size
  have HB := Aside0.mk hB
  clear hB
  have H : (if s0_2 = true then (some (0, s0_0, s0_1, s0_2)) else (some (wrap64 ((wrap64 (8 * (s0_0.size : Int))) - s0_1), s0_0, s0_1, s0_2))) = some (r1, r2, r3, r4) := h
  clear h
  by_cases c2 : s0_2 = true
  · subst c2
    have H1 : (some (0, s0_0, s0_1, true)) = some (r1, r2, r3, r4) := by rw [if_pos rfl] at H; exact H
    clear H
    have H := H1
    clear H1
    simp only [Option.some.injEq, Prod.mk.injEq] at H
    obtain ⟨rfl, rfl, rfl, rfl⟩ := H
    obtain ⟨HGz3, hgz3⟩ := HI0.out
    have hcz3_0 := cellS73_0 HGz3
    have hcz3_1 := cellS73_1 HGz3
    have hcz3_2 := cellS73_2 HGz3
    have hfz3_0 := blk_frozen HGz3 0
    have hfz3_1 := blk_frozen HGz3 1
    have hfz3_2 := blk_frozen HGz3 2
    clear HGz3 hgz3
    go_enter Try.func28, Try.ntmps28
    go_wp2
    repeat (go_quiet (fail); try go_wp2)
    go_ret
    exact ⟨by first | rfl | (simp [errW_none, errW_some] <;> rfl) | (simp [*, errW_none, errW_some] <;> rfl), by repeat (first | (with_reducible first | exact HI0.out | apply IsS73.alloc | apply IsS73.drewN | apply IsS73.drew | apply IsS73.set_0 | apply IsS73.set_1 | apply IsS73.set_2) | exact HI0.out), by repeat (first | (with_reducible first | exact HB.out | apply below_alloc | apply pw_below_drewN | apply below_drew1 | refine below_set ?_ (IsS73.ge HI0.out)) | exact HB.out), by repeat (first | (with_reducible first | exact HK.out | apply KeepBut.set_ | apply keep_drewN | apply keep_drew | apply keep_alloc) | exact HK.out)⟩
  · replace c2 := Bool.eq_false_iff.mpr c2
    subst c2
    have H1 : (some (wrap64 ((wrap64 (8 * (s0_0.size : Int))) - s0_1), s0_0, s0_1, false)) = some (r1, r2, r3, r4) := by rw [if_neg (show ¬ (false = true) by decide)] at H; exact H
    clear H
    have H := H1
    clear H1
    simp only [Option.some.injEq, Prod.mk.injEq] at H
    obtain ⟨rfl, rfl, rfl, rfl⟩ := H
    obtain ⟨HGz4, hgz4⟩ := HI0.out
    have hcz4_0 := cellS73_0 HGz4
    have hcz4_1 := cellS73_1 HGz4
    have hcz4_2 := cellS73_2 HGz4
    have hfz4_0 := blk_frozen HGz4 0
    have hfz4_1 := blk_frozen HGz4 1
    have hfz4_2 := blk_frozen HGz4 2
    clear HGz4 hgz4
    go_enter Try.func28, Try.ntmps28
    go_wp2
    repeat (go_quiet (fail); try go_wp2)
    go_ret
    exact ⟨by first | rfl | (simp [errW_none, errW_some] <;> rfl) | (simp [*, errW_none, errW_some] <;> rfl), by repeat (first | (with_reducible first | exact HI0.out | apply IsS73.alloc | apply IsS73.drewN | apply IsS73.drew | apply IsS73.set_0 | apply IsS73.set_1 | apply IsS73.set_2) | exact HI0.out), by repeat (first | (with_reducible first | exact HB.out | apply below_alloc | apply pw_below_drewN | apply below_drew1 | refine below_set ?_ (IsS73.ge HI0.out)) | exact HB.out), by repeat (first | (with_reducible first | exact HK.out | apply KeepBut.set_ | apply keep_drewN | apply keep_drew | apply keep_alloc) | exact HK.out)⟩

/-! ### nack_Decode: function 13 -/
def nack_Decode.f (a0 : ByteArray) : Option (Int × Int × List Int × Int) := if a0.size ≤ 1000000000000000000 then (some (B.nackDec a0)) else (none)
def DecI (w : World) (s : ByteArray) (b r o : Nat) (S M : Int) (a : Int) (xs : List Int) (wr : World) : Prop :=
  B.RdIs wr r 73 s a false ∧ wr.heap[b]? = some (.cells #[.int .u32 0, .int .u32 0, .slice none 0 0] 25) ∧
    (∃ v, wr.heap[o]? = some (.cells #[.int .u32 S, .int .u32 M, v] 25) ∧ wr.ownsRow (o + 1) 3 1 v xs.length (nums .i64 xs)) ∧ Below b w wr
def DecJ (w : World) (s : ByteArray) (b r o : Nat) (S M a : Int) (xs : List Int) (f m : Nat) (a' : Act) (w' : World) : Prop :=
  ∃ (i : Nat) (q33 q34 q35 q36 q37 q38 q39 q40 q41 q42 q43 q44 q45 q46 q47 q48 q49 q50 q51 q52 q53 q54 q55 q56 q57 q58 q59 q60 q61 q62 q63 q64 q65 : Value), a' = { tmps := #[.string s, undef, .pointer (some ⟨b, 0, none⟩), .int .i64 0, .pointer (some ⟨r, 0, none⟩), .pointer (some ⟨o, 0, none⟩), .int .i64 (f : Int), .int .u32 (m : Int), .int .i64 (i : Int), undef, .bool false, .string s, .int .i64 (s.size : Int), .bool false, undef, .bool false, .string s, .int .i64 (s.size : Int), .int .i64 ((s.size : Int) % 4), .bool false, undef, .bool false, .string s, .int .i64 (s.size : Int), .bool false, undef, .string s, .pointer (some ⟨r, 0, none⟩), .pointer (some ⟨r, 0, none⟩), .int .u32 S, .pointer (some ⟨r, 0, none⟩), .int .u32 M, .agg #[.int .u32 S, .int .u32 M, .slice none 0 0], q33, q34, q35, q36, q37, q38, q39, q40, q41, q42, q43, q44, q45, q46, q47, q48, q49, q50, q51, q52, q53, q54, q55, q56, q57, q58, q59, q60, q61, q62, q63, q64, q65, undef, undef, undef, undef, undef, undef, undef, undef], defers := [] } ∧ i ≤ 15 ∧ DecI w s b r o S M a (xs ++ B.lostPart f m i) w'
theorem info_int : (Try.prog.info? 3).map (fun i => (i.zero, i.size, i.bytes)) = some (some (.int .i64 0), 1, 8) := by kernel_rfl
theorem dec_step {w w10 : World} {s : ByteArray} {b r o : Nat} {S M A : Int} {Z : List Int} {v v10 : Value} (hbr : b < r) (hro : r < o) (hR : B.RdIs w10 r 73 s A false) (hZ : w10.heap[b]? = some (.cells #[.int .u32 0, .int .u32 0, .slice none 0 0] 25))
    (hO : w10.heap[o]? = some (.cells #[.int .u32 S, .int .u32 M, v] 25)) (HOW : w10.ownsRow (o + 1) 3 1 v10 Z.length (nums .i64 Z)) (hB : Below b w w10) : DecI w s b r o S M A Z (w10.setCell ⟨o, 2, none⟩ v10) := by
  refine ⟨blk_far hR (by show r ≠ o; omega) _, blk_far hZ (by show b ≠ o; omega) _, ⟨v10, ?_, own_setCell HOW (p := ⟨o, 2, none⟩) (fun e => by have := own_base HOW o e.symm; omega) _⟩, hB.setCell (p := ⟨o, 2, none⟩) (by show b ≤ o; omega) _⟩
  refine (blk_set hO 2 v10).trans ?_
  simp
theorem cut_sum (f i : Nat) (hf : f < 65536) (hi : i ≤ 15) : (IntKind.i64.wrap (IntKind.i64.wrap ((f : Int) + (i : Int)) + 1)) % 65536 = (((f + i + 1) % 65536 : Nat) : Int) := by
  rw [IntKind.wrap_i64, IntKind.wrap_i64]; omega
set_option maxHeartbeats 4000000 in
theorem nack_Decode.main (s : ByteArray) (w : World) (h1 : s.size ≤ 65536) (h4 : s.size % 4 = 0) (h12 : 12 ≤ s.size) :
    Calls Try.prog 13 #[.string s] w fun e w' => ∃ v2_ : Value, e = .returned (.tuple #[.agg #[.int .u32 (B.nackDec s).1, .int .u32 (B.nackDec s).2.1, v2_], .int .i64 (B.nackDec s).2.2.2]) ∧ w'.ownsRow w.heap.size 3 1 v2_ (B.nackDec s).2.2.1.length (nums .i64 (B.nackDec s).2.2.1) ∧ Below w.heap.size w w' := by
  have hd1 : decide (65536 < (s.size : Int)) = false := decide_eq_false (by omega)
  have hd2 : ((s.size : Int) % 4 != 0) = false := by simp; omega
  have hd3 : decide ((s.size : Int) < 12) = false := decide_eq_false (by omega)
  go_enter Try.func13, Try.ntmps13
  go_wp2_with fail
  refine (B.read_any _ _).mono ?_
  rintro e w1 ⟨rfl, hw1⟩
  have hsz : (w.alloc (.cells #[.int .u32 0, .int .u32 0, .slice none 0 0] 25)).heap.size = w.heap.size + 1 := by simp
  have hR1 : B.RdIs w1 (w.heap.size + 1) 73 s 0 false := by
    have h := blk_new (w.alloc (.cells #[.int .u32 0, .int .u32 0, .slice none 0 0] 25)) (.cells #[.string s, .int .i64 0, .bool false] 73)
    rw [hsz] at h
    rw [hw1]
    exact h
  have hZ1 : w1.heap[w.heap.size]? = some (.cells #[.int .u32 0, .int .u32 0, .slice none 0 0] 25) := by rw [hw1]; exact blk_alloc (blk_new w _) _
  have hB1 : Below w.heap.size w w1 := by rw [hw1]; exact ((Below.refl _ w).alloc (Nat.le_refl _) _).alloc (by simp) _
  clear hw1 hsz
  go_wp2_with fail
  refine (B.get_good _ _ s 0 32 hR1 (by omega) (by omega) (by omega) (by omega)).mono ?_
  rintro e w2 ⟨rfl, hR2, hG2⟩
  have hZ2 := blk_grown hZ1 hG2 (by simp)
  have hB2 := hB1.grown hG2 hB1.size (by simp)
  clear hR1 hZ1 hB1 hG2
  go_wp2_with fail
  refine (B.get_good _ _ s 32 32 hR2 (by omega) (by omega) (by omega) (by omega)).mono ?_
  rintro e w3 ⟨rfl, hR3, hG3⟩
  have hZ3 := blk_grown hZ2 hG3 (by simp)
  have hB3 := hB2.grown hG3 hB2.size (by simp)
  clear hR2 hZ2 hB2 hG3
  obtain ⟨S, hS⟩ : ∃ S : Int, (B.rdBits s 0 32 : Int) = S := ⟨_, rfl⟩
  obtain ⟨M, hM⟩ : ∃ M : Int, (B.rdBits s 32 32 : Int) = M := ⟨_, rfl⟩
  rw [hS, hM]
  have HS := Aside0.mk hS
  have HM := Aside0.mk hM
  clear hS hM
  go_wp2
  obtain ⟨b, hb⟩ : ∃ b, w.heap.size = b := ⟨_, rfl⟩
  have hbw := Aside0.mk hb
  rw [hb] at hR3 hZ3 hB3 ⊢
  clear hb
  obtain ⟨r, hr⟩ : ∃ r, b + 1 = r := ⟨_, rfl⟩
  rw [hr] at hR3 ⊢
  have hbr : b < r := by omega
  have hrl : r < w3.heap.size := blk_lt hR3
  obtain ⟨o, ho⟩ : ∃ o, w3.heap.size = o := ⟨_, rfl⟩
  have hI0 : DecI w s b r o S M 64 [] (w3.alloc (.cells #[.int .u32 S, .int .u32 M, .slice none 0 0] 25)) := by
    refine ⟨blk_alloc hR3 _, blk_alloc hZ3 _, ⟨.slice none 0 0, by rw [← ho]; exact blk_new _ _, own_nil _ _ _ _⟩, hB3.alloc (by omega) _⟩
  rw [ho] at hrl ⊢
  have HI0 := Aside0.mk hI0
  have HM0 := Aside0.mk hr
  clear hI0 hR3 hZ3 hB3 ho hr
  go_loopw [6] (fun _ wr => ∃ j : Nat, 64 + 32 * j ≤ 8 * s.size ∧ DecI w s b r o S M ((64 + 32 * j : Nat) : Int) (B.lostAll s j) wr) (fun _ wr => (8 * (s.size : Int) - intOf ((wr.cell? ⟨r, 1, none⟩).getD undef)).toNat)
  case atStart => exact ⟨0, by omega, HI0.out⟩
  case round =>
    obtain ⟨j, hj, hR, hZ, ⟨v, hO, HOW⟩, hB⟩ := hrel
    clear HI0
    obtain ⟨A, hA⟩ : ∃ A : Int, ((64 + 32 * j : Nat) : Int) = A := ⟨_, rfl⟩
    have HA := Aside0.mk hA
    rw [hA] at hR
    have hA0 : 0 ≤ A := by omega
    have hA1 : A ≤ 8 * (s.size : Int) := by omega
    clear hA
    by_cases hlt : A < 8 * (s.size : Int)
    · have hdl : decide (A < 8 * (s.size : Int)) = true := decide_eq_true hlt
      have hA32 : A + 32 ≤ 8 * (s.size : Int) := by have := HA.out; omega
      obtain ⟨X, hX⟩ : ∃ X, B.lostAll s j = X := ⟨_, rfl⟩
      rw [hX] at HOW
      have HX := Aside0.mk hX
      have hXl : X.length ≤ 300000 := by rw [← hX]; have := B.lostAll_length s j; omega
      have HC0 := Aside0.mk (blk_cell hR 1)
      clear hX
      go_wp2_with fail
      refine (B.left_any _ _ s _ hR (by omega) hA0 hA1).mono ?_
      rintro e wl ⟨rfl, hDl⟩
      obtain ⟨nd, rfl⟩ := hDl.out
      have hI : DecI w s b r o S M A X (wr.drewN nd) := ⟨hR, blk_drewN hZ nd, ⟨v, hO, HOW⟩, pw_below_drewN hB nd⟩
      clear hR hZ hO HOW hB hDl
      generalize wr.drewN nd = wl at *
      obtain ⟨hR, hZ, ⟨v, hO, HOW⟩, hB⟩ := hI
      obtain ⟨f, hf⟩ : ∃ f, B.rdBits s A.toNat (16 : Int).toNat = f := ⟨_, rfl⟩
      obtain ⟨m, hm⟩ : ∃ m, B.rdBits s (A + 16).toNat (16 : Int).toNat = m := ⟨_, rfl⟩
      have hf1 : f < 65536 := by rw [← hf]; exact B.rdBits_lt s _ 16
      have hm1 : m < 65536 := by rw [← hm]; exact B.rdBits_lt s _ 16
      have HLA : Aside0 (B.lostAt s j = B.lostPart f m 16) := ⟨by unfold B.lostAt; rw [← hf, ← hm, show (16 : Int).toNat = 16 from rfl, show A.toNat = 64 + 32 * j by have := HA.out; omega, show (A + 16).toNat = 80 + 32 * j by have := HA.out; omega]⟩
      have Hf := Aside0.mk hf
      have Hm := Aside0.mk hm
      have HU := Try.underlying23
      clear hf hm
      have hRo : r < o := hrl
      go_wp2
      refine B.wp_scope_goto 0 (DecJ w s b r o S M (A + 32) X f m) (fun a' _ => (16 - intOf (a'.tmps.getD 8 undef)).toNat) rfl ?_ ?_
      · clear hR hZ hO HOW hB
        rintro a' w' ⟨i, q33, q34, q35, q36, q37, q38, q39, q40, q41, q42, q43, q44, q45, q46, q47, q48, q49, q50, q51, q52, q53, q54, q55, q56, q57, q58, q59, q60, q61, q62, q63, q64, q65, rfl, hi, hR, hZ, ⟨v1, hO, HOW⟩, hB⟩
        obtain ⟨A1, cc1, rfl⟩ := own_slice HOW
        have hol := blk_lt hO
        have o2 := blk_cell hO 2
        have of2 := blk_frozen hO 2
        simp only [List.getElem?_toArray, List.getElem?_cons_zero, List.getElem?_cons_succ] at o2
        have hXl2 : (X ++ B.lostPart f m i).length ≤ 400000 := by have := B.lostPart_length f m i; rw [List.length_append]; omega
        have HAND := B.and_one_u32 m i (by omega)
        by_cases hbit : m.testBit i = true
        · rw [hbit] at HAND
          have HB1 := Aside0.mk (B.lostPart_yes f m i hbit)
          clear hbit
          have hand : bits .and .u32 ((m : Int) / 2 ^ i) 1 = 1 := HAND
          clear HAND
          obtain ⟨Y, hY⟩ : ∃ Y, X ++ B.lostPart f m i = Y := ⟨_, rfl⟩
          rw [hY] at HOW o2 hO hXl2
          have HY := Aside0.mk hY
          have HO := Aside0.mk hO
          have HR := Aside0.mk hR
          have HZ := Aside0.mk hZ
          have HBW := Aside0.mk hB
          have HOWA := Aside0.mk HOW
          have HC := Aside0.mk ((wrap_Cut.at16 (IntKind.i64.wrap (IntKind.i64.wrap ((f : Int) + (i : Int)) + 1))).trans (congrArg some (cut_sum f i hf1 hi)))
          obtain ⟨R, hRR⟩ : ∃ R : Int, (((f + i + 1) % 65536 : Nat) : Int) = R := ⟨_, rfl⟩
          rw [hRR] at HC HB1
          clear hRR
          clear hY hO hR hZ hB HOW
          have hcA : ∀ (k : Nat) (x : Obj), ((w'.drewN k).alloc x).cell? ⟨o, 2, none⟩ = some (.slice A1 Y.length cc1) := fun k x => (World.cell?_alloc_lt (w'.drewN k) x ⟨o, 2, none⟩ hol).trans o2
          go_wp2
          go_region_law (first | (go_loud (refine goes_ (N := some 58) Try.func19 rfl rfl #[.int .i64 (IntKind.i64.wrap (IntKind.i64.wrap ((f : Int) + (i : Int)) + 1)), .int .i64 16] rfl rfl rfl ?_ ?_); go_loud (simp only [List.map_toArray, List.map_cons, List.map_nil]); rfl; go_loud (refine (wrap_Cut.calls _ 16 R _ HC.out).mono ?_); rintro e w9 ⟨rfl, ⟨⟨nd9, rfl⟩⟩⟩; refine ⟨_, rfl, ?_⟩) | (go_loud (refine B.step_append_num (w0 := w') (o + 1) rfl (.tmp 53) (.tmp 59) 23 3 .i64 8 rfl HU info_int (by omega) (.slice A1 Y.length cc1) Y R rfl rfl HOWA.out (pw_below_drewN (Below.refl _ _) _) (by show o + 1 ≤ w'.heap.size; omega) (by omega) ?_; intro v10 w10 HOW10 hB10 hG10' hA10; have hG10 : w'.grownBy w10 (Value.slice A1 Y.length cc1).ownBlock := ⟨hG10'.os, hG10'.tape, hG10'.output, hG10'.size, hG10'.block⟩; have HO10 := Aside0.mk (blk_grown HO.out hG10 (fun e => by have := own_base HOWA.out o e.symm; omega)); have k10 := blk_cell HO10.out 2; have f10 := blk_frozen HO10.out 2; simp only [List.getElem?_toArray, List.getElem?_cons_zero, List.getElem?_cons_succ] at k10; have HR10 := Aside0.mk (blk_grown HR.out hG10 (fun e => by have := own_base HOWA.out r e.symm; omega)); have HZ10 := Aside0.mk (blk_grown HZ.out hG10 (fun e => by have := own_base HOWA.out b e.symm; omega)); obtain ⟨A10, n10, rfl⟩ := own_slice HOW10)))
          all_goals
            have hDI : DecI w s b r o S M (A + 32) (X ++ B.lostPart f m (i + 1)) (w10.setCell ⟨o, 2, none⟩ (.slice A10 (Y ++ [R]).length n10)) := by
              rw [HB1.out, ← List.append_assoc, HY.out]
              exact dec_step hbr hRo HR10.out HZ10.out HO10.out HOW10 (HBW.out.grown hG10 (Nat.le_trans (by omega) (Nat.le_of_lt hol)) (fun k hk => by have := own_base HOWA.out k hk; omega))
            simp only [List.length_append, List.length_singleton] at hDI
            have HDI := Aside0.mk hDI
            clear hDI HOW10 HR10 HZ10 HO10 hG10 hG10' hB10
            by_cases hi15 : (i : Int) + 1 < 16
            · have hdi : decide ((i : Int) + 1 < 16) = true := decide_eq_true hi15
              have hi14 : i + 1 ≤ 15 := by omega
              clear hi15
              go_wp2
              go_step3
              refine ⟨rfl, ⟨i + 1, _, _, _, _, _, _, _, _, _, _, _, _, _, _, _, _, _, _, _, _, _, _, _, _, _, _, _, _, _, _, _, _, _, rfl, by omega, HDI.out⟩, ?_⟩
              simp [intOf]
              omega
            · have hdi : decide ((i : Int) + 1 < 16) = false := decide_eq_false hi15
              have HI16 : Aside0 (i + 1 = 16) := ⟨by omega⟩
              clear hi15
              go_wp2
              simp only [Exit.jump]
              go_wp2
              go_roundw
              case rel =>
                refine ⟨j + 1, by have := HA.out; omega, ?_⟩
                have hDI := HDI.out
                rw [HI16.out, ← HLA.out, ← HX.out, ← B.lostAll_succ] at hDI
                rw [show ((64 + 32 * (j + 1) : Nat) : Int) = A + 32 by have := HA.out; omega]
                exact hDI
              case measure =>
                have h1 := HDI.out.1
                have h2 := blk_cell h1 1
                simp only [List.getElem?_toArray, List.getElem?_cons_zero, List.getElem?_cons_succ] at h2
                have h3 := HC0.out
                simp only [List.getElem?_toArray, List.getElem?_cons_zero, List.getElem?_cons_succ] at h3
                rw [h2, h3]
                simp [intOf]
                omega
        · have hbit' : m.testBit i = false := by simpa using hbit
          rw [hbit'] at HAND
          have hand : bits .and .u32 ((m : Int) / 2 ^ i) 1 = 0 := HAND
          have HDI : Aside0 (DecI w s b r o S M (A + 32) (X ++ B.lostPart f m (i + 1)) w') := ⟨by rw [B.lostPart_no f m i hbit']; exact ⟨hR, hZ, ⟨_, hO, HOW⟩, hB⟩⟩
          clear HAND hbit hbit' hR hZ hO HOW hB o2 of2
          by_cases hi15 : (i : Int) + 1 < 16
          · have hdi : decide ((i : Int) + 1 < 16) = true := decide_eq_true hi15
            have hi14 : i + 1 ≤ 15 := by omega
            clear hi15
            go_wp2
            go_step3
            refine ⟨rfl, ⟨i + 1, _, _, _, _, _, _, _, _, _, _, _, _, _, _, _, _, _, _, _, _, _, _, _, _, _, _, _, _, _, _, _, _, _, rfl, by omega, HDI.out⟩, ?_⟩
            simp [intOf]
            omega
          · have hdi : decide ((i : Int) + 1 < 16) = false := decide_eq_false hi15
            have HI16 : Aside0 (i + 1 = 16) := ⟨by omega⟩
            clear hi15
            go_wp2
            simp only [Exit.jump]
            go_wp2
            go_roundw
            case rel =>
              refine ⟨j + 1, by have := HA.out; omega, ?_⟩
              have hDI := HDI.out
              rw [HI16.out, ← HLA.out, ← HX.out, ← B.lostAll_succ] at hDI
              rw [show ((64 + 32 * (j + 1) : Nat) : Int) = A + 32 by have := HA.out; omega]
              exact hDI
            case measure =>
              have h1 := HDI.out.1
              have h2 := blk_cell h1 1
              simp only [List.getElem?_toArray, List.getElem?_cons_zero, List.getElem?_cons_succ] at h2
              have h3 := HC0.out
              simp only [List.getElem?_toArray, List.getElem?_cons_zero, List.getElem?_cons_succ] at h3
              rw [h2, h3]
              simp [intOf]
              omega
      · intro hrest
        go_wp2_with fail
        refine (B.get_int _ _ s A 16 hR (by omega) hA0 (by omega) (by omega) (by omega)).mono ?_
        rintro e w6 ⟨rfl, hR6, hG6⟩
        rw [Hf.out]
        have hZ6 := blk_grown hZ hG6 (by simp; omega)
        have hO6 := blk_grown hO hG6 (by simp; omega)
        have HOW6 : w6.ownsRow (o + 1) 3 1 v X.length (nums .i64 X) := HOW.kept hG6 (.inr fun e => by have := own_base HOW r e; omega)
        have hB6 := hB.grown hG6 (Nat.le_of_lt (Nat.lt_trans hbr (blk_lt hR))) (by simp; omega)
        clear hR hZ hO HOW hB hG6
        go_wp2_with fail
        refine (B.get_int _ _ s (A + 16) 16 hR6 (by omega) (by omega) (by omega) (by omega) (by omega)).mono ?_
        rintro e w7 ⟨rfl, hR7, hG7⟩
        rw [Hm.out]
        have hZ7 := blk_grown hZ6 hG7 (by simp; omega)
        have hO7 := blk_grown hO6 hG7 (by simp; omega)
        have HOW7 : w7.ownsRow (o + 1) 3 1 v X.length (nums .i64 X) := HOW6.kept hG7 (.inr fun e => by have := own_base HOW6 r e; omega)
        have hB7 := hB6.grown hG7 (Nat.le_of_lt (Nat.lt_trans hbr (blk_lt hR6))) (by simp; omega)
        clear hR6 hZ6 hO6 HOW6 hB6 hG7
        have hol := blk_lt hO7
        have o2 := blk_cell hO7 2
        have of2 := blk_frozen hO7 2
        simp only [List.getElem?_toArray, List.getElem?_cons_zero, List.getElem?_cons_succ] at o2
        have HR7 := Aside0.mk hR7
        have HZ7 := Aside0.mk hZ7
        have HO7 := Aside0.mk hO7
        have HB7 := Aside0.mk hB7
        clear hR7 hZ7 hO7 hB7 hdl
        go_wp2_with (at_builtin; refine print_append_num (w0 := w7) (o + 1) rfl (.tmp 42) (.tmp 44) 23 3 .i64 8 rfl HU info_int (by omega) v X (f : Int) rfl rfl HOW7 (Below.refl _ _) (by omega) (by omega) ?_; intro v8 w8 HOW8 hB8 hG8 hA8; obtain ⟨A8, n8, rfl⟩ := own_slice HOW8; have HO8 := Aside0.mk (blk_grown HO7.out hG8 (fun e => by have := own_base HOW7 o e.symm; omega)); have c82 := blk_cell HO8.out 2; have f82 := blk_frozen HO8.out 2; simp only [List.getElem?_toArray, List.getElem?_cons_zero, List.getElem?_cons_succ] at c82)
        go_step3
        rename_i K hK
        refine hK _ _ (hrest.out _ _ ⟨0, _, _, _, _, _, _, _, _, _, _, _, _, _, _, _, _, _, _, _, _, _, _, _, _, _, _, _, _, _, _, _, _, _, rfl, by omega, ?_⟩)
        rw [B.lostPart_zero]
        rw [show X.length + 1 = (X ++ [(f : Int)]).length by simp]
        exact dec_step hbr hRo (by rw [show A + 32 = A + 16 + 16 by omega]; exact blk_grown HR7.out hG8 (fun e => by have := own_base HOW7 r e.symm; omega)) (blk_grown HZ7.out hG8 (fun e => by have := own_base HOW7 b e.symm; omega)) HO8.out HOW8 (HB7.out.grown hG8 (Nat.le_trans (by omega) (Nat.le_of_lt hol)) (fun k hk => by have := own_base HOW7 k hk; omega))
    · have hdl : decide (A < 8 * (s.size : Int)) = false := decide_eq_false hlt
      have HJ : Aside0 (j = (s.size - 8) / 4) := ⟨by have := HA.out; omega⟩
      obtain ⟨Av, cv, rfl, hcv, hC⟩ := Kd.R_reads (B.R_of_own HOW)
      obtain ⟨X, hX⟩ : ∃ X, B.lostAll s j = X := ⟨_, rfl⟩
      rw [hX] at hO HOW hcv hC
      have HX := Aside0.mk hX
      have hXl : X.length ≤ 300000 := by rw [← hX]; have := B.lostAll_length s j; omega
      clear hX
      go_wp2_with fail
      refine (B.left_any _ _ s _ hR (by omega) hA0 hA1).mono ?_
      rintro e wl ⟨rfl, hDl⟩
      obtain ⟨nd, rfl⟩ := hDl.out
      have hC1 := Kd.C_below hC (Drawn0.below (w := wr) ⟨nd, rfl⟩)
      have hO1 := blk_drewN hO nd
      have hZ1 := blk_drewN hZ nd
      have HOW1 : (wr.drewN nd).ownsRow (o + 1) 3 1 (.slice Av X.length cv) X.length (nums .i64 X) := HOW
      have hB1 : Below b w (wr.drewN nd) := pw_below_drewN hB nd
      generalize wr.drewN nd = wl at *
      have o0 := blk_cell hO1 0
      have o1 := blk_cell hO1 1
      have o2 := blk_cell hO1 2
      have z0 := blk_cell hZ1 0
      have z1 := blk_cell hZ1 1
      have z2 := blk_cell hZ1 2
      have zf0 := blk_frozen hZ1 0
      have zf1 := blk_frozen hZ1 1
      have zf2 := blk_frozen hZ1 2
      simp only [List.getElem?_toArray, List.getElem?_cons_zero, List.getElem?_cons_succ] at o0 o1 o2 z0 z1 z2
      have HC1 := Aside0.mk hC1
      have HO1 := Aside0.mk hO1
      have HZ1 := Aside0.mk hZ1
      have HOWA := Aside0.mk HOW1
      clear hC1 hO1 hZ1 HOW1 hC hO hZ HOW hR hDl hB hlt
      go_wp2_with fail
      refine (nack_fault.calls Av cv X _ _ HC1.out hcv rfl).mono ?_
      rintro e w5 ⟨rfl, hD5⟩
      obtain ⟨nd5, rfl⟩ := hD5.out
      clear hD5
      have hND : B.nackDec s = if 4096 < X.length then (0, 0, [], 2 + 1) else if B.goodB X = true then (S, M, X, 0) else (0, 0, [], 110) := by
        unfold B.nackDec
        rw [if_neg (by omega), if_neg (by omega), if_neg (by omega), ← HJ.out, HX.out, HS.out, HM.out]
        rfl
      have HND := Aside0.mk hND
      clear hND
      by_cases c1 : 4096 < X.length
      · rw [if_pos c1]
        go_wp2
        refine bodyPost_ret (results_ct rfl _ _ b 25 #[.int .u32 0, .int .u32 0, .slice none 0 0] (0, 0) _ rfl (B.blk_set3 _ _ _ (blk_drewN HZ1.out nd5)) Try.underlying25 rfl (by kernel_rfl)) rfl ?_
        rw [HND.out, if_pos c1]
        exact ⟨_, rfl, own_nil _ _ _ _, by rw [hbw.out]; exact B.below_set3 _ _ _ (pw_below_drewN hB1 nd5)⟩
      · rw [if_neg c1]
        by_cases c2 : B.goodB X = true
        · rw [if_pos c2]
          go_wp2
          refine bodyPost_ret (results_ct rfl _ _ b 25 #[.int .u32 S, .int .u32 M, .slice Av X.length cv] (0, 0) _ rfl (B.blk_set3 _ _ _ (blk_drewN HZ1.out nd5)) Try.underlying25 rfl (by kernel_rfl)) rfl ?_
          rw [HND.out, if_neg c1, if_pos c2]
          exact ⟨_, rfl, own_weaken (B.own_set3 _ _ _ HOWA.out (by omega)) (by rw [hbw.out]; omega), by rw [hbw.out]; exact B.below_set3 _ _ _ (pw_below_drewN hB1 nd5)⟩
        · rw [if_neg c2]
          go_wp2
          refine bodyPost_ret (results_ct rfl _ _ b 25 #[.int .u32 0, .int .u32 0, .slice none 0 0] (0, 0) _ rfl (B.blk_set3 _ _ _ (blk_drewN HZ1.out nd5)) Try.underlying25 rfl (by kernel_rfl)) rfl ?_
          rw [HND.out, if_neg c1, if_neg c2]
          exact ⟨_, rfl, own_nil _ _ _ _, by rw [hbw.out]; exact B.below_set3 _ _ _ (pw_below_drewN hB1 nd5)⟩
theorem nack_Decode.early (s : ByteArray) (w : World) (c : Int) (hc : (65536 < s.size ∧ c = 2) ∨ (s.size ≤ 65536 ∧ s.size % 4 ≠ 0 ∧ c = 90) ∨ (s.size ≤ 65536 ∧ s.size % 4 = 0 ∧ s.size < 12 ∧ c = 60)) (hs : s.size ≤ 1000000000000000000) :
    Calls Try.prog 13 #[.string s] w fun e w' => e = .returned (.tuple #[.agg #[.int .u32 0, .int .u32 0, .slice none 0 0], .int .i64 c]) ∧ Below w.heap.size w w' := by
  rcases hc with ⟨h1, rfl⟩ | ⟨h1, h4, rfl⟩ | ⟨h1, h4, h12, rfl⟩
  · have hd1 : decide (65536 < (s.size : Int)) = true := decide_eq_true (by omega)
    go_enter Try.func13, Try.ntmps13
    go_wp2
    exact bodyPost_ret (results_ct rfl _ _ w.heap.size 25 #[.int .u32 0, .int .u32 0, .slice none 0 0] (0, 0) _ rfl (blk_new _ _) Try.underlying25 rfl (by kernel_rfl)) rfl ⟨rfl, (Below.refl _ _).alloc (Nat.le_refl _) _⟩
  · have hd1 : decide (65536 < (s.size : Int)) = false := decide_eq_false (by omega)
    have hd2 : ((s.size : Int) % 4 != 0) = true := by simp; omega
    go_enter Try.func13, Try.ntmps13
    go_wp2
    exact bodyPost_ret (results_ct rfl _ _ w.heap.size 25 #[.int .u32 0, .int .u32 0, .slice none 0 0] (0, 0) _ rfl (blk_new _ _) Try.underlying25 rfl (by kernel_rfl)) rfl ⟨rfl, (Below.refl _ _).alloc (Nat.le_refl _) _⟩
  · have hd1 : decide (65536 < (s.size : Int)) = false := decide_eq_false (by omega)
    have hd2 : ((s.size : Int) % 4 != 0) = false := by simp; omega
    have hd3 : decide ((s.size : Int) < 12) = true := decide_eq_true (by omega)
    go_enter Try.func13, Try.ntmps13
    go_wp2
    exact bodyPost_ret (results_ct rfl _ _ w.heap.size 25 #[.int .u32 0, .int .u32 0, .slice none 0 0] (0, 0) _ rfl (blk_new _ _) Try.underlying25 rfl (by kernel_rfl)) rfl ⟨rfl, (Below.refl _ _).alloc (Nat.le_refl _) _⟩
theorem nack_Decode.calls (a0 : ByteArray) (r1 : Int) (r2 : Int) (r3 : List Int) (r4 : Int) (w : World) (h : nack_Decode.f a0 = some (r1, r2, r3, r4)) :
    Calls Try.prog 13 #[.string a0] w fun e w' => ∃ v2_ : Value, e = .returned (.tuple #[.agg #[.int .u32 r1, .int .u32 r2, v2_], .int .i64 r4]) ∧ Kd.R (Kd.int .i64) 3 w' w.heap.size (fun _ => True) v2_ r3 ∧ Below w.heap.size w w' := by
  unfold nack_Decode.f at h
  by_cases hs : a0.size ≤ 1000000000000000000
  · rw [if_pos hs] at h
    have h := Option.some.inj h
    by_cases c1 : 65536 < a0.size
    · have e : B.nackDec a0 = (0, 0, [], 2) := by unfold B.nackDec; rw [if_pos c1]
      rw [e] at h
      obtain ⟨rfl, rfl, rfl, rfl⟩ : r1 = 0 ∧ r2 = 0 ∧ r3 = [] ∧ r4 = 2 := by simpa [eq_comm] using h
      exact (nack_Decode.early a0 w 2 (.inl ⟨c1, rfl⟩) hs).mono fun _ _ ⟨he, hb⟩ => ⟨_, he, Kd.R_nil _ _ _ _ _, hb⟩
    by_cases c2 : a0.size % 4 ≠ 0
    · have e : B.nackDec a0 = (0, 0, [], 90) := by unfold B.nackDec; rw [if_neg c1, if_pos c2]
      rw [e] at h
      obtain ⟨rfl, rfl, rfl, rfl⟩ : r1 = 0 ∧ r2 = 0 ∧ r3 = [] ∧ r4 = 90 := by simpa [eq_comm] using h
      exact (nack_Decode.early a0 w 90 (.inr (.inl ⟨by omega, c2, rfl⟩)) hs).mono fun _ _ ⟨he, hb⟩ => ⟨_, he, Kd.R_nil _ _ _ _ _, hb⟩
    by_cases c3 : a0.size < 12
    · have e : B.nackDec a0 = (0, 0, [], 60) := by unfold B.nackDec; rw [if_neg c1, if_neg c2, if_pos c3]
      rw [e] at h
      obtain ⟨rfl, rfl, rfl, rfl⟩ : r1 = 0 ∧ r2 = 0 ∧ r3 = [] ∧ r4 = 60 := by simpa [eq_comm] using h
      exact (nack_Decode.early a0 w 60 (.inr (.inr ⟨by omega, by omega, c3, rfl⟩)) hs).mono fun _ _ ⟨he, hb⟩ => ⟨_, he, Kd.R_nil _ _ _ _ _, hb⟩
    refine (nack_Decode.main a0 w (by omega) (by omega) (by omega)).mono ?_
    rintro e w' ⟨v2, he, ho, hb⟩
    rw [h] at he ho
    exact ⟨v2, he, B.R_of_own ho, hb⟩
  · rw [if_neg hs] at h; cases h


/-! ### flywheellaw11_wakes: function 8 -/
def flywheellaw11_wakes.f  : Option (Bool) := (nack_Encode.f 1 2 (([5, 6, 21] : List Int))).bind fun bt115 => ((nack_Decode.f bt115.1).bind fun bt117 => (if bt115.2 = 0 then (if bt117.2.2.2 = 0 then (if (bt115.1.size : Int) = 12 then (if 8 ≤ (bt115.1.size : Int) then (if (bt115.1.extract 8 bt115.1.size).toList = ([0, 5, 128, 1] : List UInt8) then (some ((bt117.2.2.1.length : Int) == 3)) else (some false)) else (none)) else (some false)) else (some false)) else (some false)))
set_option maxHeartbeats 8000000 in
set_option maxRecDepth 100000 in
theorem flywheellaw11_wakes.calls  (r : Bool) (w : World) (h : flywheellaw11_wakes.f  = some r) :
    Calls Try.prog 8 #[] w fun e w' => e = .returned (.bool r) ∧ Below w.heap.size w w' := by
  have hu25 := Try.underlying25
  have HB := Aside0.mk (Below.refl w.heap.size w)
  have H : ((nack_Encode.f 1 2 (([5, 6, 21] : List Int))).bind fun bt115 => ((nack_Decode.f bt115.1).bind fun bt117 => (if bt115.2 = 0 then (if bt117.2.2.2 = 0 then (if (bt115.1.size : Int) = 12 then (if 8 ≤ (bt115.1.size : Int) then (if (bt115.1.extract 8 bt115.1.size).toList = ([0, 5, 128, 1] : List UInt8) then (some ((bt117.2.2.1.length : Int) == 3)) else (some false)) else (none)) else (some false)) else (some false)) else (some false)))) = some r := h
  clear h
  obtain ⟨y112, hy112⟩ : ∃ y_ : List Int, y_ = (([5, 6, 21] : List Int)) := ⟨_, rfl⟩
  replace H : ((nack_Encode.f 1 2 y112).bind fun bt115 => ((nack_Decode.f bt115.1).bind fun bt117 => (if bt115.2 = 0 then (if bt117.2.2.2 = 0 then (if (bt115.1.size : Int) = 12 then (if 8 ≤ (bt115.1.size : Int) then (if (bt115.1.extract 8 bt115.1.size).toList = ([0, 5, 128, 1] : List UInt8) then (some ((bt117.2.2.1.length : Int) == 3)) else (some false)) else (none)) else (some false)) else (some false)) else (some false)))) = some r := by first | (rw [hy112]; with_reducible exact H) | (have H2_ := (Option.bind_some _ _).symm.trans H; rw [hy112]; with_reducible exact H2_) | (have H2_ := (Option.bind_some _ _).symm.trans H; with_reducible exact H2_) | with_reducible exact H | (rw [hy112]; exact H) | exact H
  have Ny112 := Aside0.mk hy112
  clear hy112
  replace H := Option.bind_eq_some_iff.mp H
  obtain ⟨⟨t115, t116⟩, A10, H⟩ := H
  replace H : ((nack_Decode.f t115).bind fun bt117 => (if t116 = 0 then (if bt117.2.2.2 = 0 then (if (t115.size : Int) = 12 then (if 8 ≤ (t115.size : Int) then (if (t115.extract 8 t115.size).toList = ([0, 5, 128, 1] : List UInt8) then (some ((bt117.2.2.1.length : Int) == 3)) else (some false)) else (none)) else (some false)) else (some false)) else (some false))) = some r := H
  have A1 := Aside0.mk A10
  clear A10
  replace H := Option.bind_eq_some_iff.mp H
  obtain ⟨⟨t117, t118, t119, t122⟩, A20, H⟩ := H
  replace H : (if t116 = 0 then (if t122 = 0 then (if (t115.size : Int) = 12 then (if 8 ≤ (t115.size : Int) then (if (t115.extract 8 t115.size).toList = ([0, 5, 128, 1] : List UInt8) then (some ((t119.length : Int) == 3)) else (some false)) else (none)) else (some false)) else (some false)) else (some false)) = some r := H
  have A2 := Aside0.mk A20
  clear A20
  by_cases c3 : t116 = 0
  · rw [if_pos c3] at H
    have c3b0 : (t116 == 0) = true := beq_iff_eq.mpr c3
    have c3b1 : (t116 != 0) = false := bne_eq_false_iff_eq.mpr c3
    clear c3
    by_cases c4 : t122 = 0
    · rw [if_pos c4] at H
      have c4b0 : (t122 == 0) = true := beq_iff_eq.mpr c4
      have c4b1 : (t122 != 0) = false := bne_eq_false_iff_eq.mpr c4
      clear c4
      by_cases c5 : (t115.size : Int) = 12
      · rw [if_pos c5] at H
        have c5b0 : ((t115.size : Int) == 12) = true := beq_iff_eq.mpr c5
        have c5b1 : ((t115.size : Int) != 12) = false := bne_eq_false_iff_eq.mpr c5
        clear c5
        by_cases c6 : 8 ≤ (t115.size : Int)
        · rw [if_pos c6] at H
          have c6b0 := eq_true c6
          have c6b1 : decide (8 ≤ (t115.size : Int)) = true := decide_eq_true c6
          clear c6
          by_cases c7 : (t115.extract 8 t115.size).toList = ([0, 5, 128, 1] : List UInt8)
          · rw [if_pos c7] at H
            have c7b0 : ((t115.extract 8 t115.size).toList == ([0, 5, 128, 1] : List UInt8)) = true := beq_iff_eq.mpr c7
            have c7b1 : ((t115.extract 8 t115.size).toList != ([0, 5, 128, 1] : List UInt8)) = false := bne_eq_false_iff_eq.mpr c7
            clear c7
            obtain rfl := Option.some.inj H
            go_enter Try.func8, Try.ntmps8
            go_wp2_with (first | ((with_reducible refine gate_dst (N := 6) rfl ?_); (try (refine gate_guard (by rfl) ?_; dsimp only)); refine Kd.R_lit (Kd.int .i64) _ 3 ?hg (N := 6) ?hd (xs := ([5, 6, 21] : List Int)) (inner := [.int .i64 5, .int .i64 6, .int .i64 21]) (ok := fun _ => True) (okp := fun _ => True) ?hr ?hp (fun _ hk => hk) trivial (Below.refl _ _) (Nat.le_refl _) (by simp) ?_; (case hd => rfl); (case hg => rfl); (case hr => first | (go_simp; done) | (go_simp; rfl)); (case hp => exact (Reps.one (show Kd.M (Kd.int .i64) _ _ _ 5 [.int .i64 5] from rfl) (Reps.one (show Kd.M (Kd.int .i64) _ _ _ 6 [.int .i64 6] from rfl) (Reps.one (show Kd.M (Kd.int .i64) _ _ _ 21 [.int .i64 21] from rfl) (Reps.none _ _))))); intro v113 w8 ho9 hb hg_ hnew_; clear hg_ hnew_; (first | rw [← Ny112.out] at ho9 | (simp only [Int.reduceToNat] at ho9; rw [← Ny112.out] at ho9)); have n0_ := Aside0.mk (Kd.R_lower ho9 (below_size (by repeat (first | (with_reducible first | exact HB.out | apply below_alloc | apply pw_below_drewN | apply below_drew1) | exact HB.out)))); have n1_ := Aside0.mk (below_step (by repeat (first | (with_reducible first | exact HB.out | apply below_alloc | apply pw_below_drewN | apply below_drew1) | exact HB.out)) hb); clear HB; have HO114 := n0_; have HB := n1_; clear n0_ n1_; clear hb ho9; obtain ⟨Ao10, co10, eo10⟩ := Kd.R_slice HO114.out; subst eo10) | ((with_reducible refine gate_callee (f := 10) rfl ?_); refine goesL_ (some 8) rfl rfl Try.func10 (by kernel_rfl) rfl #[.agg #[.int .u32 1, .int .u32 2, .slice Ao10 y112.length co10]] rfl (by (try simp only [List.map_toArray, List.map_cons, List.map_nil]); first | done | rfl | (simp only [List.length_drop, List.length_take]; rfl)) ?_; (with_reducible refine (nack_Encode.calls 1 2 _ _ y112 t115 t116 _ ?side1 ?side2 A1.out).mono ?_); (case side1 => repeat (first | exact (Kd.R_reads' HO114.out).2.2 | (with_reducible refine Kd.C_alloc ?_ _) | (with_reducible refine Kd.C_drewN ?_ _) | (with_reducible refine Kd.C_drew ?_))); (case side2 => exact (Kd.R_reads' HO114.out).2.1); rintro e w11 ⟨rfl, hb⟩; refine ⟨_, rfl, ?_⟩; have n0_ := Aside0.mk (Kd.R_below (by (with_reducible repeat (first | apply Kd.R_alloc | apply Kd.R_drewN | apply Kd.R_drew)); exact HO114.out) hb); have n1_ := Aside0.mk (below_step (by repeat (first | (with_reducible first | exact HB.out | apply below_alloc | apply pw_below_drewN | apply below_drew1) | exact HB.out)) hb); clear HO114; clear HB; have HO114 := n0_; have HB := n1_; clear n0_ n1_; (try clear hb); (try clear hb2); (try clear hk); (try clear hi)) | ((with_reducible refine gate_callee (f := 13) rfl ?_); refine goesL_ (some 13) rfl rfl Try.func13 (by kernel_rfl) rfl #[.string t115] rfl (by (try simp only [List.map_toArray, List.map_cons, List.map_nil]); first | done | rfl | (simp only [List.length_drop, List.length_take]; rfl)) ?_; (with_reducible refine (nack_Decode.calls t115 t117 t118 t119 t122 _ A2.out).mono ?_); rintro e w12 ⟨v120, rfl, ho0, hb⟩; refine ⟨_, rfl, ?_⟩; have n0_ := Aside0.mk (Kd.R_elder' (by (with_reducible repeat (first | apply Kd.R_alloc | apply Kd.R_drewN | apply Kd.R_drew)); exact HO114.out) (Kd.R_base ho0) hb); have n1_ := Aside0.mk (Kd.R_lower (Kd.R_new' ho0 (Kd.R_lt (by (with_reducible repeat (first | apply Kd.R_alloc | apply Kd.R_drewN | apply Kd.R_drew)); exact HO114.out))) (below_size (by repeat (first | (with_reducible first | exact HB.out | apply below_alloc | apply pw_below_drewN | apply below_drew1) | exact HB.out)))); have n2_ := Aside0.mk (below_step (by repeat (first | (with_reducible first | exact HB.out | apply below_alloc | apply pw_below_drewN | apply below_drew1) | exact HB.out)) hb); clear HO114; clear HB; have HO114 := n0_; have HO121 := n1_; have HB := n2_; clear n0_ n1_ n2_; (try clear hb); (try clear hb2); (try clear hk); (try clear hi); (try clear ho0)) | ((with_reducible refine gate_dst (N := 3) rfl ?_); (try (refine gate_guard (by rfl) ?_; dsimp only)); refine box_event ?hg (N := 3) ?hd (cs := #[.int .u32 0, .int .u32 0, .slice none 0 0]) (t := 25) ?hr ?_; (case hd => rfl); (case hg => rfl); (case hr => first | (go_simp; done) | (go_simp; rfl)); intro gb123 hg w13 hbox hb; have n0_ := Aside0.mk (Kd.R_below (by (with_reducible repeat (first | apply Kd.R_alloc | apply Kd.R_drewN | apply Kd.R_drew)); exact HO114.out) hb); have n1_ := Aside0.mk (Kd.R_below (by (with_reducible repeat (first | apply Kd.R_alloc | apply Kd.R_drewN | apply Kd.R_drew)); exact HO121.out) hb); have n2_ := Aside0.mk (below_step (by repeat (first | (with_reducible first | exact HB.out | apply below_alloc | apply pw_below_drewN | apply below_drew1) | exact HB.out)) hb); have n3_ := Aside0.mk (hbox); have n4_ := Aside0.mk ((by rw [hg]; exact (below_size (by repeat (first | (with_reducible first | exact HB.out | apply below_alloc | apply pw_below_drewN | apply below_drew1) | exact HB.out))) : w.heap.size ≤ gb123)); have n5_ := Aside0.mk ((by rw [hg]; exact (below_size (by repeat (first | (with_reducible first | exact HB.out | apply below_alloc | apply pw_below_drewN | apply below_drew1) | exact HB.out))) : w.heap.size ≤ gb123)); clear HO114; clear HO121; clear HB; have HO114 := n0_; have HO121 := n1_; have HB := n2_; have BK123 := n3_; have GW123 := n4_; have GE123 := n5_; clear n0_ n1_ n2_ n3_ n4_ n5_; clear hb hbox hg; have hcz14_0 : w13.cell? ⟨gb123, 0, none⟩ = some (.int .u32 0) := (blk_cell BK123.out 0).trans rfl; have hcz14_1 : w13.cell? ⟨gb123, 1, none⟩ = some (.int .u32 0) := (blk_cell BK123.out 1).trans rfl; have hcz14_2 : w13.cell? ⟨gb123, 2, none⟩ = some (.slice none 0 0) := (blk_cell BK123.out 2).trans rfl; have hfz14_0 := blk_frozen BK123.out 0; have hfz14_1 := blk_frozen BK123.out 1; have hfz14_2 := blk_frozen BK123.out 2; obtain ⟨Ao15, co15, eo15⟩ := Kd.R_slice HO121.out; subst eo15))
            go_ret
            exact ⟨by first | rfl | (simp [errW_none, errW_some] <;> rfl) | (simp [*, errW_none, errW_some] <;> rfl), by repeat (first | (with_reducible first | exact HB.out | apply below_alloc | apply pw_below_drewN | apply below_drew1 | refine below_set ?_ GE123.out) | exact HB.out)⟩
          · rw [if_neg c7] at H
            have c7b0 : ((t115.extract 8 t115.size).toList == ([0, 5, 128, 1] : List UInt8)) = false := beq_eq_false_iff_ne.mpr c7
            have c7b1 : ((t115.extract 8 t115.size).toList != ([0, 5, 128, 1] : List UInt8)) = true := bne_iff_ne.mpr c7
            obtain rfl := Option.some.inj H
            go_enter Try.func8, Try.ntmps8
            go_wp2_with (first | ((with_reducible refine gate_dst (N := 6) rfl ?_); (try (refine gate_guard (by rfl) ?_; dsimp only)); refine Kd.R_lit (Kd.int .i64) _ 3 ?hg (N := 6) ?hd (xs := ([5, 6, 21] : List Int)) (inner := [.int .i64 5, .int .i64 6, .int .i64 21]) (ok := fun _ => True) (okp := fun _ => True) ?hr ?hp (fun _ hk => hk) trivial (Below.refl _ _) (Nat.le_refl _) (by simp) ?_; (case hd => rfl); (case hg => rfl); (case hr => first | (go_simp; done) | (go_simp; rfl)); (case hp => exact (Reps.one (show Kd.M (Kd.int .i64) _ _ _ 5 [.int .i64 5] from rfl) (Reps.one (show Kd.M (Kd.int .i64) _ _ _ 6 [.int .i64 6] from rfl) (Reps.one (show Kd.M (Kd.int .i64) _ _ _ 21 [.int .i64 21] from rfl) (Reps.none _ _))))); intro v113 w16 ho17 hb hg_ hnew_; clear hg_ hnew_; (first | rw [← Ny112.out] at ho17 | (simp only [Int.reduceToNat] at ho17; rw [← Ny112.out] at ho17)); have n0_ := Aside0.mk (Kd.R_lower ho17 (below_size (by repeat (first | (with_reducible first | exact HB.out | apply below_alloc | apply pw_below_drewN | apply below_drew1) | exact HB.out)))); have n1_ := Aside0.mk (below_step (by repeat (first | (with_reducible first | exact HB.out | apply below_alloc | apply pw_below_drewN | apply below_drew1) | exact HB.out)) hb); clear HB; have HO114 := n0_; have HB := n1_; clear n0_ n1_; clear hb ho17; obtain ⟨Ao18, co18, eo18⟩ := Kd.R_slice HO114.out; subst eo18) | ((with_reducible refine gate_callee (f := 10) rfl ?_); refine goesL_ (some 8) rfl rfl Try.func10 (by kernel_rfl) rfl #[.agg #[.int .u32 1, .int .u32 2, .slice Ao18 y112.length co18]] rfl (by (try simp only [List.map_toArray, List.map_cons, List.map_nil]); first | done | rfl | (simp only [List.length_drop, List.length_take]; rfl)) ?_; (with_reducible refine (nack_Encode.calls 1 2 _ _ y112 t115 t116 _ ?side1 ?side2 A1.out).mono ?_); (case side1 => repeat (first | exact (Kd.R_reads' HO114.out).2.2 | (with_reducible refine Kd.C_alloc ?_ _) | (with_reducible refine Kd.C_drewN ?_ _) | (with_reducible refine Kd.C_drew ?_))); (case side2 => exact (Kd.R_reads' HO114.out).2.1); rintro e w19 ⟨rfl, hb⟩; refine ⟨_, rfl, ?_⟩; have n0_ := Aside0.mk (Kd.R_below (by (with_reducible repeat (first | apply Kd.R_alloc | apply Kd.R_drewN | apply Kd.R_drew)); exact HO114.out) hb); have n1_ := Aside0.mk (below_step (by repeat (first | (with_reducible first | exact HB.out | apply below_alloc | apply pw_below_drewN | apply below_drew1) | exact HB.out)) hb); clear HO114; clear HB; have HO114 := n0_; have HB := n1_; clear n0_ n1_; (try clear hb); (try clear hb2); (try clear hk); (try clear hi)) | ((with_reducible refine gate_callee (f := 13) rfl ?_); refine goesL_ (some 13) rfl rfl Try.func13 (by kernel_rfl) rfl #[.string t115] rfl (by (try simp only [List.map_toArray, List.map_cons, List.map_nil]); first | done | rfl | (simp only [List.length_drop, List.length_take]; rfl)) ?_; (with_reducible refine (nack_Decode.calls t115 t117 t118 t119 t122 _ A2.out).mono ?_); rintro e w20 ⟨v120, rfl, ho0, hb⟩; refine ⟨_, rfl, ?_⟩; have n0_ := Aside0.mk (Kd.R_elder' (by (with_reducible repeat (first | apply Kd.R_alloc | apply Kd.R_drewN | apply Kd.R_drew)); exact HO114.out) (Kd.R_base ho0) hb); have n1_ := Aside0.mk (Kd.R_lower (Kd.R_new' ho0 (Kd.R_lt (by (with_reducible repeat (first | apply Kd.R_alloc | apply Kd.R_drewN | apply Kd.R_drew)); exact HO114.out))) (below_size (by repeat (first | (with_reducible first | exact HB.out | apply below_alloc | apply pw_below_drewN | apply below_drew1) | exact HB.out)))); have n2_ := Aside0.mk (below_step (by repeat (first | (with_reducible first | exact HB.out | apply below_alloc | apply pw_below_drewN | apply below_drew1) | exact HB.out)) hb); clear HO114; clear HB; have HO114 := n0_; have HO121 := n1_; have HB := n2_; clear n0_ n1_ n2_; (try clear hb); (try clear hb2); (try clear hk); (try clear hi); (try clear ho0)) | ((with_reducible refine gate_dst (N := 3) rfl ?_); (try (refine gate_guard (by rfl) ?_; dsimp only)); refine box_event ?hg (N := 3) ?hd (cs := #[.int .u32 0, .int .u32 0, .slice none 0 0]) (t := 25) ?hr ?_; (case hd => rfl); (case hg => rfl); (case hr => first | (go_simp; done) | (go_simp; rfl)); intro gb123 hg w21 hbox hb; have n0_ := Aside0.mk (Kd.R_below (by (with_reducible repeat (first | apply Kd.R_alloc | apply Kd.R_drewN | apply Kd.R_drew)); exact HO114.out) hb); have n1_ := Aside0.mk (Kd.R_below (by (with_reducible repeat (first | apply Kd.R_alloc | apply Kd.R_drewN | apply Kd.R_drew)); exact HO121.out) hb); have n2_ := Aside0.mk (below_step (by repeat (first | (with_reducible first | exact HB.out | apply below_alloc | apply pw_below_drewN | apply below_drew1) | exact HB.out)) hb); have n3_ := Aside0.mk (hbox); have n4_ := Aside0.mk ((by rw [hg]; exact (below_size (by repeat (first | (with_reducible first | exact HB.out | apply below_alloc | apply pw_below_drewN | apply below_drew1) | exact HB.out))) : w.heap.size ≤ gb123)); have n5_ := Aside0.mk ((by rw [hg]; exact (below_size (by repeat (first | (with_reducible first | exact HB.out | apply below_alloc | apply pw_below_drewN | apply below_drew1) | exact HB.out))) : w.heap.size ≤ gb123)); clear HO114; clear HO121; clear HB; have HO114 := n0_; have HO121 := n1_; have HB := n2_; have BK123 := n3_; have GW123 := n4_; have GE123 := n5_; clear n0_ n1_ n2_ n3_ n4_ n5_; clear hb hbox hg; have hcz22_0 : w21.cell? ⟨gb123, 0, none⟩ = some (.int .u32 0) := (blk_cell BK123.out 0).trans rfl; have hcz22_1 : w21.cell? ⟨gb123, 1, none⟩ = some (.int .u32 0) := (blk_cell BK123.out 1).trans rfl; have hcz22_2 : w21.cell? ⟨gb123, 2, none⟩ = some (.slice none 0 0) := (blk_cell BK123.out 2).trans rfl; have hfz22_0 := blk_frozen BK123.out 0; have hfz22_1 := blk_frozen BK123.out 1; have hfz22_2 := blk_frozen BK123.out 2; obtain ⟨Ao23, co23, eo23⟩ := Kd.R_slice HO121.out; subst eo23))
            go_ret
            exact ⟨by first | rfl | (simp [errW_none, errW_some] <;> rfl) | (simp [*, errW_none, errW_some] <;> rfl), by repeat (first | (with_reducible first | exact HB.out | apply below_alloc | apply pw_below_drewN | apply below_drew1 | refine below_set ?_ GE123.out) | exact HB.out)⟩
        · rw [if_neg c6] at H
          exact absurd H (by simp)
      · rw [if_neg c5] at H
        have c5b0 : ((t115.size : Int) == 12) = false := beq_eq_false_iff_ne.mpr c5
        have c5b1 : ((t115.size : Int) != 12) = true := bne_iff_ne.mpr c5
        obtain rfl := Option.some.inj H
        go_enter Try.func8, Try.ntmps8
        go_wp2_with (first | ((with_reducible refine gate_dst (N := 6) rfl ?_); (try (refine gate_guard (by rfl) ?_; dsimp only)); refine Kd.R_lit (Kd.int .i64) _ 3 ?hg (N := 6) ?hd (xs := ([5, 6, 21] : List Int)) (inner := [.int .i64 5, .int .i64 6, .int .i64 21]) (ok := fun _ => True) (okp := fun _ => True) ?hr ?hp (fun _ hk => hk) trivial (Below.refl _ _) (Nat.le_refl _) (by simp) ?_; (case hd => rfl); (case hg => rfl); (case hr => first | (go_simp; done) | (go_simp; rfl)); (case hp => exact (Reps.one (show Kd.M (Kd.int .i64) _ _ _ 5 [.int .i64 5] from rfl) (Reps.one (show Kd.M (Kd.int .i64) _ _ _ 6 [.int .i64 6] from rfl) (Reps.one (show Kd.M (Kd.int .i64) _ _ _ 21 [.int .i64 21] from rfl) (Reps.none _ _))))); intro v113 w24 ho25 hb hg_ hnew_; clear hg_ hnew_; (first | rw [← Ny112.out] at ho25 | (simp only [Int.reduceToNat] at ho25; rw [← Ny112.out] at ho25)); have n0_ := Aside0.mk (Kd.R_lower ho25 (below_size (by repeat (first | (with_reducible first | exact HB.out | apply below_alloc | apply pw_below_drewN | apply below_drew1) | exact HB.out)))); have n1_ := Aside0.mk (below_step (by repeat (first | (with_reducible first | exact HB.out | apply below_alloc | apply pw_below_drewN | apply below_drew1) | exact HB.out)) hb); clear HB; have HO114 := n0_; have HB := n1_; clear n0_ n1_; clear hb ho25; obtain ⟨Ao26, co26, eo26⟩ := Kd.R_slice HO114.out; subst eo26) | ((with_reducible refine gate_callee (f := 10) rfl ?_); refine goesL_ (some 8) rfl rfl Try.func10 (by kernel_rfl) rfl #[.agg #[.int .u32 1, .int .u32 2, .slice Ao26 y112.length co26]] rfl (by (try simp only [List.map_toArray, List.map_cons, List.map_nil]); first | done | rfl | (simp only [List.length_drop, List.length_take]; rfl)) ?_; (with_reducible refine (nack_Encode.calls 1 2 _ _ y112 t115 t116 _ ?side1 ?side2 A1.out).mono ?_); (case side1 => repeat (first | exact (Kd.R_reads' HO114.out).2.2 | (with_reducible refine Kd.C_alloc ?_ _) | (with_reducible refine Kd.C_drewN ?_ _) | (with_reducible refine Kd.C_drew ?_))); (case side2 => exact (Kd.R_reads' HO114.out).2.1); rintro e w27 ⟨rfl, hb⟩; refine ⟨_, rfl, ?_⟩; have n0_ := Aside0.mk (Kd.R_below (by (with_reducible repeat (first | apply Kd.R_alloc | apply Kd.R_drewN | apply Kd.R_drew)); exact HO114.out) hb); have n1_ := Aside0.mk (below_step (by repeat (first | (with_reducible first | exact HB.out | apply below_alloc | apply pw_below_drewN | apply below_drew1) | exact HB.out)) hb); clear HO114; clear HB; have HO114 := n0_; have HB := n1_; clear n0_ n1_; (try clear hb); (try clear hb2); (try clear hk); (try clear hi)) | ((with_reducible refine gate_callee (f := 13) rfl ?_); refine goesL_ (some 13) rfl rfl Try.func13 (by kernel_rfl) rfl #[.string t115] rfl (by (try simp only [List.map_toArray, List.map_cons, List.map_nil]); first | done | rfl | (simp only [List.length_drop, List.length_take]; rfl)) ?_; (with_reducible refine (nack_Decode.calls t115 t117 t118 t119 t122 _ A2.out).mono ?_); rintro e w28 ⟨v120, rfl, ho0, hb⟩; refine ⟨_, rfl, ?_⟩; have n0_ := Aside0.mk (Kd.R_elder' (by (with_reducible repeat (first | apply Kd.R_alloc | apply Kd.R_drewN | apply Kd.R_drew)); exact HO114.out) (Kd.R_base ho0) hb); have n1_ := Aside0.mk (Kd.R_lower (Kd.R_new' ho0 (Kd.R_lt (by (with_reducible repeat (first | apply Kd.R_alloc | apply Kd.R_drewN | apply Kd.R_drew)); exact HO114.out))) (below_size (by repeat (first | (with_reducible first | exact HB.out | apply below_alloc | apply pw_below_drewN | apply below_drew1) | exact HB.out)))); have n2_ := Aside0.mk (below_step (by repeat (first | (with_reducible first | exact HB.out | apply below_alloc | apply pw_below_drewN | apply below_drew1) | exact HB.out)) hb); clear HO114; clear HB; have HO114 := n0_; have HO121 := n1_; have HB := n2_; clear n0_ n1_ n2_; (try clear hb); (try clear hb2); (try clear hk); (try clear hi); (try clear ho0)) | ((with_reducible refine gate_dst (N := 3) rfl ?_); (try (refine gate_guard (by rfl) ?_; dsimp only)); refine box_event ?hg (N := 3) ?hd (cs := #[.int .u32 0, .int .u32 0, .slice none 0 0]) (t := 25) ?hr ?_; (case hd => rfl); (case hg => rfl); (case hr => first | (go_simp; done) | (go_simp; rfl)); intro gb123 hg w29 hbox hb; have n0_ := Aside0.mk (Kd.R_below (by (with_reducible repeat (first | apply Kd.R_alloc | apply Kd.R_drewN | apply Kd.R_drew)); exact HO114.out) hb); have n1_ := Aside0.mk (Kd.R_below (by (with_reducible repeat (first | apply Kd.R_alloc | apply Kd.R_drewN | apply Kd.R_drew)); exact HO121.out) hb); have n2_ := Aside0.mk (below_step (by repeat (first | (with_reducible first | exact HB.out | apply below_alloc | apply pw_below_drewN | apply below_drew1) | exact HB.out)) hb); have n3_ := Aside0.mk (hbox); have n4_ := Aside0.mk ((by rw [hg]; exact (below_size (by repeat (first | (with_reducible first | exact HB.out | apply below_alloc | apply pw_below_drewN | apply below_drew1) | exact HB.out))) : w.heap.size ≤ gb123)); have n5_ := Aside0.mk ((by rw [hg]; exact (below_size (by repeat (first | (with_reducible first | exact HB.out | apply below_alloc | apply pw_below_drewN | apply below_drew1) | exact HB.out))) : w.heap.size ≤ gb123)); clear HO114; clear HO121; clear HB; have HO114 := n0_; have HO121 := n1_; have HB := n2_; have BK123 := n3_; have GW123 := n4_; have GE123 := n5_; clear n0_ n1_ n2_ n3_ n4_ n5_; clear hb hbox hg; have hcz30_0 : w29.cell? ⟨gb123, 0, none⟩ = some (.int .u32 0) := (blk_cell BK123.out 0).trans rfl; have hcz30_1 : w29.cell? ⟨gb123, 1, none⟩ = some (.int .u32 0) := (blk_cell BK123.out 1).trans rfl; have hcz30_2 : w29.cell? ⟨gb123, 2, none⟩ = some (.slice none 0 0) := (blk_cell BK123.out 2).trans rfl; have hfz30_0 := blk_frozen BK123.out 0; have hfz30_1 := blk_frozen BK123.out 1; have hfz30_2 := blk_frozen BK123.out 2; obtain ⟨Ao31, co31, eo31⟩ := Kd.R_slice HO121.out; subst eo31))
        go_ret
        exact ⟨by first | rfl | (simp [errW_none, errW_some] <;> rfl) | (simp [*, errW_none, errW_some] <;> rfl), by repeat (first | (with_reducible first | exact HB.out | apply below_alloc | apply pw_below_drewN | apply below_drew1 | refine below_set ?_ GE123.out) | exact HB.out)⟩
    · rw [if_neg c4] at H
      have c4b0 : (t122 == 0) = false := beq_eq_false_iff_ne.mpr c4
      have c4b1 : (t122 != 0) = true := bne_iff_ne.mpr c4
      obtain rfl := Option.some.inj H
      go_enter Try.func8, Try.ntmps8
      go_wp2_with (first | ((with_reducible refine gate_dst (N := 6) rfl ?_); (try (refine gate_guard (by rfl) ?_; dsimp only)); refine Kd.R_lit (Kd.int .i64) _ 3 ?hg (N := 6) ?hd (xs := ([5, 6, 21] : List Int)) (inner := [.int .i64 5, .int .i64 6, .int .i64 21]) (ok := fun _ => True) (okp := fun _ => True) ?hr ?hp (fun _ hk => hk) trivial (Below.refl _ _) (Nat.le_refl _) (by simp) ?_; (case hd => rfl); (case hg => rfl); (case hr => first | (go_simp; done) | (go_simp; rfl)); (case hp => exact (Reps.one (show Kd.M (Kd.int .i64) _ _ _ 5 [.int .i64 5] from rfl) (Reps.one (show Kd.M (Kd.int .i64) _ _ _ 6 [.int .i64 6] from rfl) (Reps.one (show Kd.M (Kd.int .i64) _ _ _ 21 [.int .i64 21] from rfl) (Reps.none _ _))))); intro v113 w32 ho33 hb hg_ hnew_; clear hg_ hnew_; (first | rw [← Ny112.out] at ho33 | (simp only [Int.reduceToNat] at ho33; rw [← Ny112.out] at ho33)); have n0_ := Aside0.mk (Kd.R_lower ho33 (below_size (by repeat (first | (with_reducible first | exact HB.out | apply below_alloc | apply pw_below_drewN | apply below_drew1) | exact HB.out)))); have n1_ := Aside0.mk (below_step (by repeat (first | (with_reducible first | exact HB.out | apply below_alloc | apply pw_below_drewN | apply below_drew1) | exact HB.out)) hb); clear HB; have HO114 := n0_; have HB := n1_; clear n0_ n1_; clear hb ho33; obtain ⟨Ao34, co34, eo34⟩ := Kd.R_slice HO114.out; subst eo34) | ((with_reducible refine gate_callee (f := 10) rfl ?_); refine goesL_ (some 8) rfl rfl Try.func10 (by kernel_rfl) rfl #[.agg #[.int .u32 1, .int .u32 2, .slice Ao34 y112.length co34]] rfl (by (try simp only [List.map_toArray, List.map_cons, List.map_nil]); first | done | rfl | (simp only [List.length_drop, List.length_take]; rfl)) ?_; (with_reducible refine (nack_Encode.calls 1 2 _ _ y112 t115 t116 _ ?side1 ?side2 A1.out).mono ?_); (case side1 => repeat (first | exact (Kd.R_reads' HO114.out).2.2 | (with_reducible refine Kd.C_alloc ?_ _) | (with_reducible refine Kd.C_drewN ?_ _) | (with_reducible refine Kd.C_drew ?_))); (case side2 => exact (Kd.R_reads' HO114.out).2.1); rintro e w35 ⟨rfl, hb⟩; refine ⟨_, rfl, ?_⟩; have n0_ := Aside0.mk (Kd.R_below (by (with_reducible repeat (first | apply Kd.R_alloc | apply Kd.R_drewN | apply Kd.R_drew)); exact HO114.out) hb); have n1_ := Aside0.mk (below_step (by repeat (first | (with_reducible first | exact HB.out | apply below_alloc | apply pw_below_drewN | apply below_drew1) | exact HB.out)) hb); clear HO114; clear HB; have HO114 := n0_; have HB := n1_; clear n0_ n1_; (try clear hb); (try clear hb2); (try clear hk); (try clear hi)) | ((with_reducible refine gate_callee (f := 13) rfl ?_); refine goesL_ (some 13) rfl rfl Try.func13 (by kernel_rfl) rfl #[.string t115] rfl (by (try simp only [List.map_toArray, List.map_cons, List.map_nil]); first | done | rfl | (simp only [List.length_drop, List.length_take]; rfl)) ?_; (with_reducible refine (nack_Decode.calls t115 t117 t118 t119 t122 _ A2.out).mono ?_); rintro e w36 ⟨v120, rfl, ho0, hb⟩; refine ⟨_, rfl, ?_⟩; have n0_ := Aside0.mk (Kd.R_elder' (by (with_reducible repeat (first | apply Kd.R_alloc | apply Kd.R_drewN | apply Kd.R_drew)); exact HO114.out) (Kd.R_base ho0) hb); have n1_ := Aside0.mk (Kd.R_lower (Kd.R_new' ho0 (Kd.R_lt (by (with_reducible repeat (first | apply Kd.R_alloc | apply Kd.R_drewN | apply Kd.R_drew)); exact HO114.out))) (below_size (by repeat (first | (with_reducible first | exact HB.out | apply below_alloc | apply pw_below_drewN | apply below_drew1) | exact HB.out)))); have n2_ := Aside0.mk (below_step (by repeat (first | (with_reducible first | exact HB.out | apply below_alloc | apply pw_below_drewN | apply below_drew1) | exact HB.out)) hb); clear HO114; clear HB; have HO114 := n0_; have HO121 := n1_; have HB := n2_; clear n0_ n1_ n2_; (try clear hb); (try clear hb2); (try clear hk); (try clear hi); (try clear ho0)) | ((with_reducible refine gate_dst (N := 3) rfl ?_); (try (refine gate_guard (by rfl) ?_; dsimp only)); refine box_event ?hg (N := 3) ?hd (cs := #[.int .u32 0, .int .u32 0, .slice none 0 0]) (t := 25) ?hr ?_; (case hd => rfl); (case hg => rfl); (case hr => first | (go_simp; done) | (go_simp; rfl)); intro gb123 hg w37 hbox hb; have n0_ := Aside0.mk (Kd.R_below (by (with_reducible repeat (first | apply Kd.R_alloc | apply Kd.R_drewN | apply Kd.R_drew)); exact HO114.out) hb); have n1_ := Aside0.mk (Kd.R_below (by (with_reducible repeat (first | apply Kd.R_alloc | apply Kd.R_drewN | apply Kd.R_drew)); exact HO121.out) hb); have n2_ := Aside0.mk (below_step (by repeat (first | (with_reducible first | exact HB.out | apply below_alloc | apply pw_below_drewN | apply below_drew1) | exact HB.out)) hb); have n3_ := Aside0.mk (hbox); have n4_ := Aside0.mk ((by rw [hg]; exact (below_size (by repeat (first | (with_reducible first | exact HB.out | apply below_alloc | apply pw_below_drewN | apply below_drew1) | exact HB.out))) : w.heap.size ≤ gb123)); have n5_ := Aside0.mk ((by rw [hg]; exact (below_size (by repeat (first | (with_reducible first | exact HB.out | apply below_alloc | apply pw_below_drewN | apply below_drew1) | exact HB.out))) : w.heap.size ≤ gb123)); clear HO114; clear HO121; clear HB; have HO114 := n0_; have HO121 := n1_; have HB := n2_; have BK123 := n3_; have GW123 := n4_; have GE123 := n5_; clear n0_ n1_ n2_ n3_ n4_ n5_; clear hb hbox hg; have hcz38_0 : w37.cell? ⟨gb123, 0, none⟩ = some (.int .u32 0) := (blk_cell BK123.out 0).trans rfl; have hcz38_1 : w37.cell? ⟨gb123, 1, none⟩ = some (.int .u32 0) := (blk_cell BK123.out 1).trans rfl; have hcz38_2 : w37.cell? ⟨gb123, 2, none⟩ = some (.slice none 0 0) := (blk_cell BK123.out 2).trans rfl; have hfz38_0 := blk_frozen BK123.out 0; have hfz38_1 := blk_frozen BK123.out 1; have hfz38_2 := blk_frozen BK123.out 2; obtain ⟨Ao39, co39, eo39⟩ := Kd.R_slice HO121.out; subst eo39))
      go_ret
      exact ⟨by first | rfl | (simp [errW_none, errW_some] <;> rfl) | (simp [*, errW_none, errW_some] <;> rfl), by repeat (first | (with_reducible first | exact HB.out | apply below_alloc | apply pw_below_drewN | apply below_drew1 | refine below_set ?_ GE123.out) | exact HB.out)⟩
  · rw [if_neg c3] at H
    have c3b0 : (t116 == 0) = false := beq_eq_false_iff_ne.mpr c3
    have c3b1 : (t116 != 0) = true := bne_iff_ne.mpr c3
    obtain rfl := Option.some.inj H
    go_enter Try.func8, Try.ntmps8
    go_wp2_with (first | ((with_reducible refine gate_dst (N := 6) rfl ?_); (try (refine gate_guard (by rfl) ?_; dsimp only)); refine Kd.R_lit (Kd.int .i64) _ 3 ?hg (N := 6) ?hd (xs := ([5, 6, 21] : List Int)) (inner := [.int .i64 5, .int .i64 6, .int .i64 21]) (ok := fun _ => True) (okp := fun _ => True) ?hr ?hp (fun _ hk => hk) trivial (Below.refl _ _) (Nat.le_refl _) (by simp) ?_; (case hd => rfl); (case hg => rfl); (case hr => first | (go_simp; done) | (go_simp; rfl)); (case hp => exact (Reps.one (show Kd.M (Kd.int .i64) _ _ _ 5 [.int .i64 5] from rfl) (Reps.one (show Kd.M (Kd.int .i64) _ _ _ 6 [.int .i64 6] from rfl) (Reps.one (show Kd.M (Kd.int .i64) _ _ _ 21 [.int .i64 21] from rfl) (Reps.none _ _))))); intro v113 w40 ho41 hb hg_ hnew_; clear hg_ hnew_; (first | rw [← Ny112.out] at ho41 | (simp only [Int.reduceToNat] at ho41; rw [← Ny112.out] at ho41)); have n0_ := Aside0.mk (Kd.R_lower ho41 (below_size (by repeat (first | (with_reducible first | exact HB.out | apply below_alloc | apply pw_below_drewN | apply below_drew1) | exact HB.out)))); have n1_ := Aside0.mk (below_step (by repeat (first | (with_reducible first | exact HB.out | apply below_alloc | apply pw_below_drewN | apply below_drew1) | exact HB.out)) hb); clear HB; have HO114 := n0_; have HB := n1_; clear n0_ n1_; clear hb ho41; obtain ⟨Ao42, co42, eo42⟩ := Kd.R_slice HO114.out; subst eo42) | ((with_reducible refine gate_callee (f := 10) rfl ?_); refine goesL_ (some 8) rfl rfl Try.func10 (by kernel_rfl) rfl #[.agg #[.int .u32 1, .int .u32 2, .slice Ao42 y112.length co42]] rfl (by (try simp only [List.map_toArray, List.map_cons, List.map_nil]); first | done | rfl | (simp only [List.length_drop, List.length_take]; rfl)) ?_; (with_reducible refine (nack_Encode.calls 1 2 _ _ y112 t115 t116 _ ?side1 ?side2 A1.out).mono ?_); (case side1 => repeat (first | exact (Kd.R_reads' HO114.out).2.2 | (with_reducible refine Kd.C_alloc ?_ _) | (with_reducible refine Kd.C_drewN ?_ _) | (with_reducible refine Kd.C_drew ?_))); (case side2 => exact (Kd.R_reads' HO114.out).2.1); rintro e w43 ⟨rfl, hb⟩; refine ⟨_, rfl, ?_⟩; have n0_ := Aside0.mk (Kd.R_below (by (with_reducible repeat (first | apply Kd.R_alloc | apply Kd.R_drewN | apply Kd.R_drew)); exact HO114.out) hb); have n1_ := Aside0.mk (below_step (by repeat (first | (with_reducible first | exact HB.out | apply below_alloc | apply pw_below_drewN | apply below_drew1) | exact HB.out)) hb); clear HO114; clear HB; have HO114 := n0_; have HB := n1_; clear n0_ n1_; (try clear hb); (try clear hb2); (try clear hk); (try clear hi)) | ((with_reducible refine gate_callee (f := 13) rfl ?_); refine goesL_ (some 13) rfl rfl Try.func13 (by kernel_rfl) rfl #[.string t115] rfl (by (try simp only [List.map_toArray, List.map_cons, List.map_nil]); first | done | rfl | (simp only [List.length_drop, List.length_take]; rfl)) ?_; (with_reducible refine (nack_Decode.calls t115 t117 t118 t119 t122 _ A2.out).mono ?_); rintro e w44 ⟨v120, rfl, ho0, hb⟩; refine ⟨_, rfl, ?_⟩; have n0_ := Aside0.mk (Kd.R_elder' (by (with_reducible repeat (first | apply Kd.R_alloc | apply Kd.R_drewN | apply Kd.R_drew)); exact HO114.out) (Kd.R_base ho0) hb); have n1_ := Aside0.mk (Kd.R_lower (Kd.R_new' ho0 (Kd.R_lt (by (with_reducible repeat (first | apply Kd.R_alloc | apply Kd.R_drewN | apply Kd.R_drew)); exact HO114.out))) (below_size (by repeat (first | (with_reducible first | exact HB.out | apply below_alloc | apply pw_below_drewN | apply below_drew1) | exact HB.out)))); have n2_ := Aside0.mk (below_step (by repeat (first | (with_reducible first | exact HB.out | apply below_alloc | apply pw_below_drewN | apply below_drew1) | exact HB.out)) hb); clear HO114; clear HB; have HO114 := n0_; have HO121 := n1_; have HB := n2_; clear n0_ n1_ n2_; (try clear hb); (try clear hb2); (try clear hk); (try clear hi); (try clear ho0)) | ((with_reducible refine gate_dst (N := 3) rfl ?_); (try (refine gate_guard (by rfl) ?_; dsimp only)); refine box_event ?hg (N := 3) ?hd (cs := #[.int .u32 0, .int .u32 0, .slice none 0 0]) (t := 25) ?hr ?_; (case hd => rfl); (case hg => rfl); (case hr => first | (go_simp; done) | (go_simp; rfl)); intro gb123 hg w45 hbox hb; have n0_ := Aside0.mk (Kd.R_below (by (with_reducible repeat (first | apply Kd.R_alloc | apply Kd.R_drewN | apply Kd.R_drew)); exact HO114.out) hb); have n1_ := Aside0.mk (Kd.R_below (by (with_reducible repeat (first | apply Kd.R_alloc | apply Kd.R_drewN | apply Kd.R_drew)); exact HO121.out) hb); have n2_ := Aside0.mk (below_step (by repeat (first | (with_reducible first | exact HB.out | apply below_alloc | apply pw_below_drewN | apply below_drew1) | exact HB.out)) hb); have n3_ := Aside0.mk (hbox); have n4_ := Aside0.mk ((by rw [hg]; exact (below_size (by repeat (first | (with_reducible first | exact HB.out | apply below_alloc | apply pw_below_drewN | apply below_drew1) | exact HB.out))) : w.heap.size ≤ gb123)); have n5_ := Aside0.mk ((by rw [hg]; exact (below_size (by repeat (first | (with_reducible first | exact HB.out | apply below_alloc | apply pw_below_drewN | apply below_drew1) | exact HB.out))) : w.heap.size ≤ gb123)); clear HO114; clear HO121; clear HB; have HO114 := n0_; have HO121 := n1_; have HB := n2_; have BK123 := n3_; have GW123 := n4_; have GE123 := n5_; clear n0_ n1_ n2_ n3_ n4_ n5_; clear hb hbox hg; have hcz46_0 : w45.cell? ⟨gb123, 0, none⟩ = some (.int .u32 0) := (blk_cell BK123.out 0).trans rfl; have hcz46_1 : w45.cell? ⟨gb123, 1, none⟩ = some (.int .u32 0) := (blk_cell BK123.out 1).trans rfl; have hcz46_2 : w45.cell? ⟨gb123, 2, none⟩ = some (.slice none 0 0) := (blk_cell BK123.out 2).trans rfl; have hfz46_0 := blk_frozen BK123.out 0; have hfz46_1 := blk_frozen BK123.out 1; have hfz46_2 := blk_frozen BK123.out 2; obtain ⟨Ao47, co47, eo47⟩ := Kd.R_slice HO121.out; subst eo47))
    go_ret
    exact ⟨by first | rfl | (simp [errW_none, errW_some] <;> rfl) | (simp [*, errW_none, errW_some] <;> rfl), by repeat (first | (with_reducible first | exact HB.out | apply below_alloc | apply pw_below_drewN | apply below_drew1 | refine below_set ?_ GE123.out) | exact HB.out)⟩

end Go.Proofs.Ytnllbldfganfgaa.PNackMasks
