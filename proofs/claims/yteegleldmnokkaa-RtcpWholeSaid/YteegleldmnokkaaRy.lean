/-
  Messages that stand one behind the other are split as their parts. Walk.
-/
import Derived.Test.YteegleldmnokkaaRv
namespace Go.Proofs.Yteegleldmnokkaa.B
open Go.RowKit Go.Proofs.YteegleldmnokkaaW.PrintWords Go.Proofs.YteegleldmnokkaaW.PrintLast Go.Proofs.YteegleldmnokkaaW.PrintMore
set_option linter.unusedVariables false
set_option linter.unusedSimpArgs false
theorem row_append_w {P : Program} {w : World} {ops : Array Oper} {rest : List Oper} {o : Oper} {a : Act} {Q : Exit → Act → World → Prop} (hgd : Region.wanted o (yielded ops a.tmps) = true) (s x : Operand) (t : TypeId)
    (ho : o.op = .call { callee := .builtin .append, args := #[s, x], argTypes := #[t, t] })
    (e : TypeId) (i : TypeInfo) (z : Value) (size bytes : Nat) (ht : P.underlying t = some (.slice e)) (hi : P.info? e = some i) (hz : i.zero = some z)
    (hsize : i.size = size) (hby : i.bytes = bytes) (hzs : z.cells.size = size) (hsz : 0 < size)
    (base : Nat) (v : Value) (n : Nat) (olds : List Value) (hs : a.eval s = v) (HR : RowV w base e size v n olds)
    (ad : Addr) (m c : Nat) (news : List Value) (hx : a.eval x = .slice (some ad) m c) (hl : news.length = m * size) (hnews : ∀ j u, news[j]? = some u → w.cell? (ad.add j) = some u) (h1 : ∀ u ∈ news, u.oneCell' = true)
    (h63 : n + m ≤ maxLen) (hbytes : (n + m) * bytes ≤ 140737488355328) (hbase : base ≤ w.heap.size)
    (h : ∀ v' w', RowV w' base e size v' (n + m) (olds ++ news) → w.grownBy w' v.ownBlock → (∀ k, v'.ownBlock = some k → v.ownBlock = some k ∨ w.heap.size ≤ k) → (∀ A c, v = .slice A n c → c < n + m → w.grownBy w' none ∧ ∀ k, v'.ownBlock = some k → w.heap.size ≤ k) → wpList P ops Q rest (a.put o.dst v') w') : wpList P ops Q (o :: rest) a w := by
  rw [wpList, if_pos hgd]
  exact .inl (row_append_step w s x t ho e i z size bytes ht hi hz hsize hby hzs hsz base v n olds hs HR ad m c news hx hl hnews h1 h63 hbytes hbase h)
def WRel (wo : World) (l : List P3) (v9 v10 : Value) (wr : World) : Prop := ∃ k : Nat, v10 = .int .i64 k ∧ v9 = .int .i64 (total (l.take k) : Nat) ∧ k ≤ l.length ∧ wo = wr
set_option maxHeartbeats 16000000 in
set_option maxRecDepth 100000 in
theorem rtcpWhole_any (s t : ByteArray) (w : World) (hs : s.size ≤ 140737488351232) (ht : t.size ≤ 140737488351232) :
    Calls Try.prog 7 #[.string s, .string t] w fun e w' => e = .returned (.bool true) ∧ Below w.heap.size w w' := by
  have HB0 := Aside0.mk (Below.refl w.heap.size w)
  go_enter Try.func7, Try.ntmps7
  by_cases h7 : 70000 < s.size
  · have d1 : decide (70000 < (s.size : Int)) = true := decide_eq_true (by omega)
    go_wp2_with fail
    refine (wakes_any w).mono ?_
    rintro e wz ⟨rfl, hBz⟩
    have HBw := Aside0.mk (HB0.out.trans (hBz.mono HB0.out.size))
    clear hBz
    go_wp2_with fail
    go_ret
    exact ⟨rfl, HBw.out⟩
  have d1 : decide (70000 < (s.size : Int)) = false := decide_eq_false (by omega)
  by_cases h8 : 70000 < t.size
  · have d2 : decide (70000 < (t.size : Int)) = true := decide_eq_true (by omega)
    go_wp2_with fail
    refine (wakes_any w).mono ?_
    rintro e wz ⟨rfl, hBz⟩
    have HBw := Aside0.mk (HB0.out.trans (hBz.mono HB0.out.size))
    clear hBz
    go_wp2_with fail
    go_ret
    exact ⟨rfl, HBw.out⟩
  have d2 : decide (70000 < (t.size : Int)) = false := decide_eq_false (by omega)
  go_wp2_with fail
  refine (split_any s w (by omega)).mono ?_
  rintro e w4 ⟨v_, rfl, hR_, hB_⟩
  have hl_K := split_len s
  obtain ⟨K, hK⟩ : ∃ l, l = (splitP s).1 := ⟨_, rfl⟩
  obtain ⟨F, hF⟩ : ∃ l, l = (splitP s).2 := ⟨_, rfl⟩
  rw [← hK] at hl_K hR_
  rw [← hF]
  have HK := Aside0.mk hK
  have HF := Aside0.mk hF
  obtain ⟨A4, c4, rfl, hP_, hc_K, hm_K⟩ := of_row_ hR_
  have HP4 := Aside0.mk hP_
  have HB4 := Aside0.mk (HB0.out.trans (hB_.mono HB0.out.size))
  clear hR_ hB_ hP_ hK hF
  go_wp2_with fail
  refine (split_any t w4 (by omega)).mono ?_
  rintro e w5 ⟨v_, rfl, hR_, hB_⟩
  have hl_M := split_len t
  obtain ⟨M, hM⟩ : ∃ l, l = (splitP t).1 := ⟨_, rfl⟩
  obtain ⟨G, hG⟩ : ∃ l, l = (splitP t).2 := ⟨_, rfl⟩
  rw [← hM] at hl_M hR_
  rw [← hG]
  have HM := Aside0.mk hM
  have HG := Aside0.mk hG
  obtain ⟨A5, c5, rfl, hP_, hc_M, hm_M⟩ := of_row_ hR_
  have HP5 := Aside0.mk hP_
  have HP4n := Aside0.mk (HP4.out.below hB_)
  clear HP4
  have HP4 := HP4n
  clear HP4n
  have HB5 := Aside0.mk (HB4.out.trans (hB_.mono HB4.out.size))
  clear hR_ hB_ hP_ hM hG
  by_cases hF : F = 0
  · obtain ⟨z1, z2, z3⟩ := splitP_inv (s := s) (l := K) (Prod.ext HK.out.symm (HF.out.symm.trans hF))
    obtain ⟨y1, y2, y3, y4⟩ := splitR_ok _ s K rfl z3
    have hKne : K ≠ [] := fun e => z2 (y4 e)
    have hK0 : K.length ≠ 0 := fun e => hKne (List.eq_nil_of_length_eq_zero e)
    have HZ := Aside0.mk z3
    have htK : Aside0 (total K ≤ 65536) := ⟨by omega⟩
    have HKN := Aside0.mk hKne
    have HY1 := Aside0.mk y1
    obtain ⟨N, hN⟩ : ∃ N, N = total K := ⟨_, rfl⟩
    have HN := Aside0.mk hN
    rw [← hN] at y2 y3
    clear z3 y1 y4 hKne hN
    subst hF
    go_wp2_with fail
    go_loopw [9, 10] (fun v9 v10 wr => WRel w5 K v9 v10 wr) (fun _ v _ => K.length - (intOf v).toNat)
    case atStart => exact ⟨0, rfl, rfl, by omega, rfl⟩
    case round =>
      obtain ⟨k, rfl, rfl, hk, hw_⟩ := hrel
      obtain rfl := hw_
      by_cases hlt : k < K.length
      · obtain ⟨⟨x1, x2, x3⟩, hx⟩ : ∃ x, K[k]? = some x := ⟨K[k]'hlt, List.getElem?_eq_getElem hlt⟩
        obtain ⟨ad, hA, t0, t1, t2⟩ := HP4.out k _ hx
        dsimp only at t0 t1 t2
        subst hA
        have hsn := total_snoc (K.take k) (x1, x2, x3)
        have htk : K.take (k + 1) = K.take k ++ [(x1, x2, x3)] := by rw [List.take_add_one, hx]; rfl
        rw [← htk] at hsn
        simp only [sizeP] at hsn
        have htl := total_take K (k + 1)
        rw [hsn] at htl
        have HSN := Aside0.mk hsn
        obtain ⟨T, hT⟩ : ∃ T, T = total (K.take k) := ⟨_, rfl⟩
        rw [← hT] at htl HSN ⊢
        have i0 : (0 : Int) ≤ (k : Int) := by omega
        have i1 : (k : Int) < (K.length : Int) := by omega
        have HTK := htK.out
        have hb1 : T + (4 + x3.size) ≤ 65536 := by omega
        clear hx hsn htk hT HTK htl
        go_wp2_with fail
        exact ⟨⟨k + 1, by simp, by rw [HSN.out]; simp, by omega, rfl⟩, by simp [intOf]; omega⟩
      · have hkl : K.take k = K := List.take_of_length_le (by omega)
        rw [hkl]
        have q1 : decide ((k : Int) < (K.length : Int)) = false := decide_eq_false (by omega)
        clear hkl
        rw [← HN.out]
        have p1 : decide ((s.size : Int) < (N : Int)) = false := decide_eq_false (by omega)
        have p2 : ((K.length : Int) == 0) = false := by simp; intro e; exact hK0 (by simp [e])
        have p3 : decide (255 < (s.size : Int) - (N : Int)) = false := decide_eq_false (by omega)
        by_cases hG : G = 0
        · by_cases hNs : N = s.size
          · by_cases hst : 65536 < s.size + t.size
            · have p4 : decide (65536 < (s.size : Int) + (t.size : Int)) = true := decide_eq_true (by omega)
              have p5 : ((N : Int) != (s.size : Int)) = false := by simp; omega
              subst hG
              go_wp2_with fail
              refine (wakes_any w5).mono ?_
              rintro e wz ⟨rfl, hBz⟩
              have HBw := Aside0.mk (HB5.out.trans (hBz.mono HB5.out.size))
              clear hBz
              go_wp2_with fail
              go_ret
              exact ⟨rfl, HBw.out⟩
            · have p4 : decide (65536 < (s.size : Int) + (t.size : Int)) = false := decide_eq_false (by omega)
              have p5 : ((N : Int) != (s.size : Int)) = false := by simp; omega
              obtain ⟨zz1, zz2, zz3⟩ := splitP_inv (s := t) (l := M) (Prod.ext HM.out.symm (HG.out.symm.trans hG))
              obtain ⟨yy1, yy2, yy3, yy4⟩ := splitR_ok _ t M rfl zz3
              have hMne : M ≠ [] := fun e => zz2 (yy4 e)
              have hM0 : M.length ≠ 0 := fun e => hMne (List.eq_nil_of_length_eq_zero e)
              have hst2 : (s ++ t).size = s.size + t.size := by simp
              have hsp : splitP (s ++ t) = (K ++ M, 0) := by
                refine splitP_ok (by omega) (by omega) ?_
                have hL := splitR_whole _ s.data.toList K rfl (by rw [tx_of]; exact HZ.out) (by rw [← HN.out, hNs]; simp)
                have e : s ++ t = tx (allBytes K ++ t.data.toList) := by
                  rw [← hL]
                  apply ByteArray.ext
                  simp [tx]
                rw [e, splitR_all K _ HY1.out, tx_of, zz3]
                rfl
              obtain ⟨X, hX⟩ : ∃ X, X = K ++ M := ⟨_, rfl⟩
              rw [← hX] at hsp
              have HX := Aside0.mk hX
              have hXl : X.length = K.length + M.length := by rw [hX, List.length_append]
              have HXL := Aside0.mk hXl
              have HKM : Aside0 (X.length ≤ 9223372036854775807) := ⟨Nat.le_trans (show X.length ≤ 200000 by omega) (by decide)⟩
              clear hX hXl
              have HSP := Aside0.mk hsp
              have HM0 := Aside0.mk hM0
              obtain ⟨Y, hY⟩ : ∃ Y, Y = s ++ t := ⟨_, rfl⟩
              have hYs : Y.size ≤ 65536 := by rw [hY]; omega
              rw [← hY] at HSP
              have hY2 := hY.symm
              clear zz1 zz3 yy1 yy2 yy3 yy4 hMne hsp hst2 hY
              subst hG
              go_wp2_with fail
              try rw [hY2]
              refine (split_any Y w5 (by omega)).mono ?_
              rintro e w6 ⟨v_, rfl, hR_, hB_⟩
              rw [HSP.out] at hR_ ⊢
              dsimp only at hR_ ⊢
              obtain ⟨A6, c6, rfl, hP_, hc6, hm6⟩ := of_row_ hR_
              have HP6 := Aside0.mk hP_
              have HPK := Aside0.mk (HP4.out.below hB_)
              have HPM := Aside0.mk (HP5.out.below hB_)
              have HB6 := Aside0.mk (HB5.out.trans (hB_.mono HB5.out.size))
              clear hR_ hB_ hP_
              go_wp2_with fail
              refine (few_any A4 c4 K w6 (by omega) hc_K HPK.out).mono ?_
              rintro e w7 ⟨v7, rfl, hR7, hB7⟩
              have HP67 := Aside0.mk (HP6.out.below hB7)
              have hPM7 := HPM.out.below hB7
              obtain ⟨ad5, hA5⟩ : ∃ ad, A5 = some ad := by
                obtain ⟨ad, e, _⟩ := hPM7 0 (M[0]'(by omega)) (List.getElem?_eq_getElem _)
                exact ⟨ad, e⟩
              subst hA5
              have HNW := Aside0.mk hPM7.news
              have HR7 := Aside0.mk (hR7.low (Nat.le_refl _))
              have HB7 := Aside0.mk hB7
              have HBS : Aside0 (w6.heap.size ≤ w7.heap.size) := ⟨hB7.size⟩
              obtain ⟨A7, c7, rfl, hn7, hc7⟩ := hR7.form
              clear hR7 hB7 hPM7
              go_wp2_with (at_builtin; go_loud (refine row_append_w (w := w7) (by rfl) (.tmp 100) (.tmp 101) 22 rfl 40 Try.t40 (.agg #[.int .i64 0, .int .i64 0, .string { data := #[] }]) 3 32 Try.underlying22 (by kernel_rfl) rfl rfl rfl (by decide) (by decide) w6.heap.size (.slice A7 K.length c7) K.length (partV K) (by rfl) HR7.out ad5 M.length c5 (partV M) (by rfl) (partV_length M) HNW.out (partV_one M) (by simp only [maxLen]; omega) (by omega) HBS.out ?_); intro v8 w8 hR8 hG8 hO8 hF8; have HR8 := Aside0.mk hR8; have HB8 := Aside0.mk (below_new HB7.out hG8 (fun k hk => (HR7.out.lt hk).2.1)); have HP68 : Aside0 (PartsAt w8 A6 X) := ⟨HP6.out.below HB8.out⟩; rw [← partV_append, ← HXL.out, ← HX.out] at hR8; obtain ⟨A8, c8, rfl, hP8, hc8, hm8⟩ := of_row_ hR8; have HP8 := Aside0.mk hP8; clear hR8 hG8 hO8 hF8 hP8)
              refine (parts_any A6 A8 c6 c8 X X w8 HKM.out HKM.out HP68.out HP8.out).mono ?_
              rintro e w9 ⟨rfl, hD9⟩
              rw [decide_eq_true (rfl : X = X)]
              have HB9 := Aside0.mk (below_drawn (HB6.out.trans (HB8.out.mono HB6.out.size)) hD9)
              clear hD9
              go_wp2_with fail
              refine (wakes_any w9).mono ?_
              rintro e wz ⟨rfl, hBz⟩
              have HBw := Aside0.mk (HB9.out.trans (hBz.mono HB9.out.size))
              clear hBz
              go_wp2_with fail
              go_ret
              exact ⟨rfl, HBw.out⟩
          · have p5 : ((N : Int) != (s.size : Int)) = true := by simp; omega
            subst hG
            go_wp2_with fail
            refine (wakes_any w5).mono ?_
            rintro e wz ⟨rfl, hBz⟩
            have HBw := Aside0.mk (HB5.out.trans (hBz.mono HB5.out.size))
            clear hBz
            go_wp2_with fail
            go_ret
            exact ⟨rfl, HBw.out⟩
        · have q9 : (G != 0) = true := by simp [hG]
          clear hG
          go_wp2_with fail
          refine (wakes_any w5).mono ?_
          rintro e wz ⟨rfl, hBz⟩
          have HBw := Aside0.mk (HB5.out.trans (hBz.mono HB5.out.size))
          clear hBz
          go_wp2_with fail
          go_ret
          exact ⟨rfl, HBw.out⟩
  · have hK0 : K = [] := by rw [HK.out]; exact splitP_fst (by rw [← HF.out]; exact hF)
    have htK : Aside0 (total K ≤ 65536) := ⟨by rw [hK0]; decide⟩
    have q9 : (F != 0) = true := by simp [hF]
    have q8 : (F == 0) = false := by simp [hF]
    have HK0 := Aside0.mk hK0
    clear hK0 hF
    go_wp2_with fail
    go_loopw [9, 10] (fun v9 v10 wr => WRel w5 K v9 v10 wr) (fun _ v _ => K.length - (intOf v).toNat)
    case atStart => exact ⟨0, rfl, rfl, by omega, rfl⟩
    case round =>
      obtain ⟨k, rfl, rfl, hk, hw_⟩ := hrel
      obtain rfl := hw_
      by_cases hlt : k < K.length
      · obtain ⟨⟨x1, x2, x3⟩, hx⟩ : ∃ x, K[k]? = some x := ⟨K[k]'hlt, List.getElem?_eq_getElem hlt⟩
        obtain ⟨ad, hA, t0, t1, t2⟩ := HP4.out k _ hx
        dsimp only at t0 t1 t2
        subst hA
        have hsn := total_snoc (K.take k) (x1, x2, x3)
        have htk : K.take (k + 1) = K.take k ++ [(x1, x2, x3)] := by rw [List.take_add_one, hx]; rfl
        rw [← htk] at hsn
        simp only [sizeP] at hsn
        have htl := total_take K (k + 1)
        rw [hsn] at htl
        have HSN := Aside0.mk hsn
        obtain ⟨T, hT⟩ : ∃ T, T = total (K.take k) := ⟨_, rfl⟩
        rw [← hT] at htl HSN ⊢
        have i0 : (0 : Int) ≤ (k : Int) := by omega
        have i1 : (k : Int) < (K.length : Int) := by omega
        have HTK := htK.out
        have hb1 : T + (4 + x3.size) ≤ 65536 := by omega
        clear hx hsn htk hT HTK htl
        go_wp2_with fail
        exact ⟨⟨k + 1, by simp, by rw [HSN.out]; simp, by omega, rfl⟩, by simp [intOf]; omega⟩
      · have hkl : K.take k = K := List.take_of_length_le (by omega)
        rw [hkl]
        have q1 : decide ((k : Int) < (K.length : Int)) = false := decide_eq_false (by omega)
        clear hkl
        obtain ⟨N, hN⟩ : ∃ N, N = total K := ⟨_, rfl⟩
        rw [← hN]
        clear hN
        go_wp2_with fail
        refine (wakes_any w5).mono ?_
        rintro e wz ⟨rfl, hBz⟩
        have HBw := Aside0.mk (HB5.out.trans (hBz.mono HB5.out.size))
        clear hBz
        go_wp2_with fail
        go_ret
        exact ⟨rfl, HBw.out⟩
end Go.Proofs.Yteegleldmnokkaa.B
