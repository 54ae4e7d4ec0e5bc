/-
  The message of parts, as the reference makes it. Walk over the statements' own reference.
-/
import Derived.Test.YteegleldmnokkaaPr
import Derived.Lib.AppendStr
namespace Go.Proofs.Yteegleldmnokkaa.B
open Go.RowKit Go.Proofs.YteegleldmnokkaaW.PrintWords Go.Proofs.YteegleldmnokkaaW.PrintLast Go.Proofs.YteegleldmnokkaaW.PrintMore
set_option linter.unusedVariables false
set_option linter.unusedSimpArgs false
theorem owns_drew {w : World} {base : Nat} {e : TypeId} {sz : Nat} {v : Value} {n : Nat} {xs : List Value} (h : w.ownsRow base e sz v n xs) : w.drew.ownsRow base e sz v n xs := h
theorem new_news_drew (w : World) (cs : List Value) (t : TypeId) : ∀ j u, cs[j]? = some u → (w.alloc (.cells cs.toArray t)).drew.cell? ((⟨w.heap.size, 0, none⟩ : Addr).add j) = some u := fun j u h => by
  rw [World.cell?_drew]
  exact new_news w cs t j u h
theorem own_append_step {P : Program} {w : World} {o : Oper} {a : Act} {K : Act → World → Prop} {Q : Exit → Act → World → Prop} (s x : Operand) (t : TypeId)
    (ho : o.op = .call { callee := .builtin .append, args := #[s, x], argTypes := #[t, t] })
    (e : TypeId) (i : TypeInfo) (z : Value) (size bytes : Nat) (ht : P.underlying t = some (.slice e)) (hi : P.info? e = some i) (hz : i.zero = some z)
    (hsize : i.size = size) (hby : i.bytes = bytes) (hzs : z.cells.size = size) (hsz : 0 < size)
    (base : Nat) (v : Value) (n : Nat) (olds : List Value) (hs : a.eval s = v) (HR : w.ownsRow base e size v n olds)
    (ad : Addr) (m c : Nat) (news : List Value) (hx : a.eval x = .slice (some ad) m c) (hl : news.length = m * size) (hnews : ∀ j u, news[j]? = some u → w.cell? (ad.add j) = some u) (h1 : ∀ u ∈ news, u.oneCell' = true)
    (h63 : n + m ≤ maxLen) (hbytes : (n + m) * bytes ≤ 140737488355328) (hbase : base ≤ w.heap.size)
    (h : ∀ v' w', w'.ownsRow base e size v' (n + m) (olds ++ news) → w.grownBy w' v.ownBlock → K (a.put o.dst v') w') : o.wp P a w K Q := by
  obtain ⟨v', w', hr, h2, h3, _⟩ := run_append_own (P := P) w base t o.type e i z size bytes ht hi hz hsize hby hzs hsz v n olds HR ad m c news hl hnews h1 h63 hbytes hbase
  unfold Oper.wp execOp
  simp only [ho, resolve, invoke, builtin, Sem.run_bind, Sem.run_pure, Result.andThen_ok, List.map_toArray, List.map_cons, List.map_nil, hs, hx, hr]
  exact h v' w' h2 h3
theorem head_cells (a b : Int) (n : Nat) (ha : 0 ≤ a ∧ a ≤ 31) (hb : 0 ≤ b ∧ b ≤ 255) (hn : n ≤ 65535) :
    [Value.int .u8 (IntKind.u8.wrap (wrap64 (128 + a))), Value.int .u8 (IntKind.u8.wrap b), Value.int .u8 (IntKind.u8.wrap ((n : Int) / 256)), Value.int .u8 (IntKind.u8.wrap (n : Int))] =
      Lib.byteCells [UInt8.ofNat (128 + a.toNat), UInt8.ofNat b.toNat, UInt8.ofNat (n / 256), UInt8.ofNat (n % 256)] := by
  have w8 : ∀ x : Int, 0 ≤ x → IntKind.u8.wrap x = ((UInt8.ofNat x.toNat).toNat : Int) := fun x hx => by
    rw [show IntKind.u8.wrap x = x % 256 by simp [IntKind.wrap, IntKind.signed, IntKind.bits], UInt8.toNat_ofNat']
    omega
  have e1 : wrap64 (128 + a) = 128 + a := by unfold wrap64; omega
  rw [e1, w8 _ (by omega), w8 b hb.1, w8 _ (by omega), w8 (n : Int) (by omega)]
  have e2 : (128 + a).toNat = 128 + a.toNat := by omega
  have e3 : ((n : Int) / 256).toNat = n / 256 := by omega
  have e4 : UInt8.ofNat n = UInt8.ofNat (n % 256) := by
    apply UInt8.toNat_inj.1
    rw [UInt8.toNat_ofNat', UInt8.toNat_ofNat']
    omega
  rw [e2, e3, Int.toNat_natCast, e4]
  rfl
def RRel1 (w : World) (l : List P3) (v4 : Value) (wr : World) : Prop := ∃ k : Nat, v4 = .int .i64 k ∧ k ≤ l.length ∧ Aside0 (∀ x ∈ l.take k, partOk x = true) ∧ Aside0 (Below w.heap.size w wr)
def RRel2 (wo : World) (l : List P3) (v6 v7 : Value) (wr : World) : Prop := ∃ k : Nat, v7 = .int .i64 k ∧ v6 = .int .i64 (total (l.take k) : Nat) ∧ k ≤ l.length ∧ total (l.take k) ≤ 65536 ∧ wr = wo
def RRel3 (wo : World) (l : List P3) (v8 v9 : Value) (wr : World) : Prop := ∃ k : Nat, v9 = .int .i64 k ∧ k ≤ l.length ∧ Aside0 (wr.ownsRow wo.heap.size 5 1 v8 (total (l.take k)) (Lib.byteCells (allBytes (l.take k)))) ∧ Aside0 (Below wo.heap.size wo wr)
set_option maxHeartbeats 8000000 in
set_option maxRecDepth 100000 in
theorem rjoin_walk (A : Option Addr) (c n : Nat) (l : List P3) (w : World) (hn : n = l.length) (hn0 : 0 < n) (hn1 : n ≤ 9223372036854775807) (hP : PartsAt w A l) (hs : ∀ x ∈ l, x.2.2.size ≤ 9223372036854775807) :
    Calls Try.prog 12 #[.slice A n c] w fun e w' => e = .returned (.tuple #[.string (joinP l).1, .int .i64 (joinP l).2]) ∧ Below w.heap.size w w' := by
  have HP := Aside0.mk hP
  have HS := Aside0.mk hs
  have HN := Aside0.mk hn
  obtain ⟨J1, hJ1⟩ : ∃ J, J = (joinP l).1 := ⟨_, rfl⟩
  obtain ⟨J2, hJ2⟩ : ∃ J, J = (joinP l).2 := ⟨_, rfl⟩
  rw [← hJ1, ← hJ2]
  have HJ1 := Aside0.mk hJ1
  have HJ2 := Aside0.mk hJ2
  have d0 : ((n : Int) == 0) = false := beq_eq_false_iff_ne.2 (by omega)
  clear hP hs hn hJ1 hJ2
  go_enter Try.func12, Try.ntmps12
  go_wp2_with fail
  go_loopw [4, 5] (fun v4 _ wr => RRel1 w l v4 wr) (fun v _ _ => n - (intOf v).toNat)
  case atStart => exact ⟨0, rfl, by omega, ⟨fun x hx => by simp at hx⟩, ⟨Below.refl _ _⟩⟩
  case round =>
    obtain ⟨k, rfl, hk, hOk, hB⟩ := hrel
    rw [← HN.out] at hk
    by_cases hlt : k < n
    · obtain ⟨⟨x1, x2, x3⟩, hx⟩ : ∃ x, l[k]? = some x := ⟨l[k]'(by rw [← HN.out]; exact hlt), List.getElem?_eq_getElem (by rw [← HN.out]; exact hlt)⟩
      obtain ⟨ad, hA, t0, t1, t2⟩ := (HP.out.below hB.out) k _ hx
      dsimp only at t0 t1 t2
      subst hA
      have hmem : (x1, x2, x3) ∈ l := List.mem_of_getElem? hx
      have hsz := HS.out _ hmem
      dsimp only at hsz
      have htk : l.take (k + 1) = l.take k ++ [(x1, x2, x3)] := by rw [List.take_add_one, hx]; rfl
      have HTK := Aside0.mk htk
      have HM := Aside0.mk hmem
      have HBa := Aside0.mk (hB.out.alloc (o := .cells #[.int .i64 x1, .int .i64 x2, .string x3] 40) hB.out.size)
      have i0 : (0 : Int) ≤ (k : Int) := by omega
      have i1 : (k : Int) < (n : Int) := by omega
      clear hx htk hmem
      cases hok : partOk (x1, x2, x3)
      · have hno : ¬ (0 ≤ x1 ∧ x1 ≤ 31 ∧ 192 ≤ x2 ∧ x2 ≤ 223 ∧ x3.size % 4 = 0 ∧ x3.size ≤ 262140) := by
          intro h
          have := (partOk_iff (x1, x2, x3)).2 h
          rw [this] at hok
          cases hok
        have HJB := Aside0.mk (joinP_bad HM.out hok)
        clear hok
        go_wp2_with fail
        all_goals first | (exfalso; omega) | skip
        all_goals go_ret2
        all_goals exact ⟨by rw [HJ1.out, HJ2.out, HJB.out]; rfl, HBa.out⟩
      · have hyes := (partOk_iff (x1, x2, x3)).1 hok
        dsimp only at hyes
        obtain ⟨y0, y1, y2, y3, y4, y5⟩ := hyes
        have HOKX := Aside0.mk hok
        have z3 : ((x3.size : Int) % 4) = 0 := by omega
        clear hok
        go_wp2_with fail
        refine ⟨⟨k + 1, by simp, by rw [← HN.out]; omega, ⟨fun x hx => ?_⟩, HBa⟩, by simp [intOf]; omega⟩
        rw [HTK.out] at hx
        rcases List.mem_append.1 hx with h | h
        · exact hOk.out x h
        · rw [List.mem_singleton.1 h]; exact HOKX.out
    · have hkn : k = l.length := by rw [← HN.out]; omega
      have hta : l.take k = l := by rw [hkn, List.take_length]
      rw [hta] at hOk
      have hne : l ≠ [] := by intro e; have := HN.out; rw [e] at this; simp at this; omega
      have hall : l.all partOk = true := List.all_eq_true.2 hOk.out
      have HNE := Aside0.mk hne
      have HALL := Aside0.mk hall
      have hkn2 : k = n := by rw [hkn, HN.out]
      subst hkn2
      clear hlt hkn hta hne hall
      obtain ⟨wo, rfl⟩ : ∃ wo : World, wo = wr := ⟨_, rfl⟩
      have hsz0 := hB.out.size
      go_wp2_with fail
      go_loopw [6, 7] (fun v6 v7 wr => RRel2 wo l v6 v7 wr) (fun _ v _ => k - (intOf v).toNat)
      case atStart => exact ⟨0, rfl, rfl, by omega, by simp [total], rfl⟩
      case round =>
        obtain ⟨j, rfl, rfl, hj, htj, rfl⟩ := hrel
        obtain ⟨wo, rfl⟩ : ∃ wo : World, wo = wr := ⟨_, rfl⟩
        rw [← HN.out] at hj
        by_cases hlt2 : j < k
        · obtain ⟨⟨x1, x2, x3⟩, hx⟩ : ∃ x, l[j]? = some x := ⟨l[j]'(by rw [← HN.out]; exact hlt2), List.getElem?_eq_getElem (by rw [← HN.out]; exact hlt2)⟩
          obtain ⟨ad, hA, t0, t1, t2⟩ := (HP.out.below hB.out) j _ hx
          dsimp only at t0 t1 t2
          subst hA
          have hok := (partOk_iff (x1, x2, x3)).1 (hOk.out _ (List.mem_of_getElem? hx))
          dsimp only at hok
          obtain ⟨y0, y1, y2, y3, y4, y5⟩ := hok
          have htk : l.take (j + 1) = l.take j ++ [(x1, x2, x3)] := by rw [List.take_add_one, hx]; rfl
          have hsn := total_snoc (l.take j) (x1, x2, x3)
          rw [← htk] at hsn
          simp only [sizeP] at hsn
          have htl := total_take l (j + 1)
          obtain ⟨T, hT⟩ : ∃ T, T = total (l.take j) := ⟨_, rfl⟩
          rw [← hT] at hsn htj ⊢
          have HSN := Aside0.mk hsn
          have i0 : (0 : Int) ≤ (j : Int) := by omega
          have i1 : (j : Int) < (k : Int) := by omega
          rw [hsn] at htl
          clear hx htk hsn hT
          by_cases hbig : 65536 < T + (4 + x3.size)
          · have q1 : decide (65536 < (T : Int) + (4 + (x3.size : Int))) = true := decide_eq_true (by omega)
            have hJ : joinP l = (⟨#[]⟩, 2) := by
              unfold joinP
              rw [if_neg HNE.out, if_neg (by rw [HALL.out]; simp), if_pos (by omega)]
            have HJB := Aside0.mk hJ
            clear hJ htl
            go_wp2_with fail
            go_ret2
            exact ⟨by rw [HJ1.out, HJ2.out, HJB.out]; rfl, hB.out⟩
          · have q1 : decide (65536 < (T : Int) + (4 + (x3.size : Int))) = false := decide_eq_false (by omega)
            clear htl
            go_wp2_with fail
            exact ⟨⟨j + 1, by simp, by rw [HSN.out]; simp, by rw [← HN.out]; omega, by rw [HSN.out]; omega, rfl⟩, by simp [intOf]; omega⟩
        · have hjl : l.take j = l := by rw [List.take_of_length_le]; rw [← HN.out]; omega
          rw [hjl] at htj ⊢
          have hJ : joinP l = (⟨(allBytes l).toArray⟩, 0) := by
            unfold joinP
            rw [if_neg HNE.out, if_neg (by rw [HALL.out]; simp), if_neg (by omega)]
          have HJB := Aside0.mk hJ
          have HTT := Aside0.mk htj
          have q2 : decide ((j : Int) < (k : Int)) = false := decide_eq_false (by omega)
          clear hJ hjl htj
          go_wp2_with fail
          go_loopw [8, 9, 10] (fun v8 v9 _ wr => RRel3 wo l v8 v9 wr) (fun _ v _ _ => k - (intOf v).toNat)
          case atStart => exact ⟨0, rfl, by omega, ⟨by simpa [total, allBytes, Lib.byteCells] using World.ownsRow_nil wo wo.heap.size 5 1⟩, ⟨Below.refl _ _⟩⟩
          case round =>
            obtain ⟨k2, rfl, hk2, hR, hB2⟩ := hrel
            rw [← HN.out] at hk2
            obtain ⟨kk, hkk⟩ : ∃ kk, kk = k := ⟨_, rfl⟩
            rw [← hkk] at hk2 HN ⊢
            have hkk9 : kk ≤ 9223372036854775807 := by rw [hkk]; exact hn1
            clear hkk
            obtain ⟨k, rfl⟩ : ∃ k3, k3 = k2 := ⟨_, rfl⟩
            by_cases hlt3 : k < kk
            · obtain ⟨⟨x1, x2, x3⟩, hx⟩ : ∃ x, l[k]? = some x := ⟨l[k]'(by rw [← HN.out]; exact hlt3), List.getElem?_eq_getElem (by rw [← HN.out]; exact hlt3)⟩
              have hBw : Below w.heap.size w wr := hB.out.trans (hB2.out.mono hsz0)
              have hPr := HP.out.below hBw
              obtain ⟨ad, hA, t0, t1, t2⟩ := hPr k _ hx
              dsimp only at t0 t1 t2
              subst hA
              have hok := (partOk_iff (x1, x2, x3)).1 (hOk.out _ (List.mem_of_getElem? hx))
              dsimp only at hok
              obtain ⟨y0, y1, y2, y3, y4, y5⟩ := hok
              have HX := Aside0.mk hx
              have i0 : (0 : Int) ≤ (k : Int) := by omega
              have i1 : (k : Int) < (kk : Int) := by omega
              obtain ⟨T, hT⟩ : ∃ T, T = total (l.take k) := ⟨_, rfl⟩
              rw [← hT] at hR
              have hTl := total_take l k
              have hT9 : T ≤ 65536 := by have := HTT.out; omega
              have HT := Aside0.mk hT
              have hadlt := World.block_lt_of_cell? wr _ t0
              have m0 : ∀ o, (wr.alloc o).cell? (ad.add (k * 3)) = some (.int .i64 x1) := fun o => (World.cell?_of_block (Below.heap_alloc wr o _ hadlt)).trans t0
              have m1 : ∀ o, (wr.alloc o).cell? ⟨(ad.add (k * 3)).block, (ad.add (k * 3)).off + 1, none⟩ = some (.int .i64 x2) := fun o => (World.cell?_of_block (a := ⟨(ad.add (k * 3)).block, (ad.add (k * 3)).off + 1, none⟩) (Below.heap_alloc wr o _ hadlt)).trans t1
              have HR4 := Aside0.mk (owns_drew (hR.out.alloc (.cells #[.int .u8 (IntKind.u8.wrap (wrap64 (128 + x1))), .int .u8 (IntKind.u8.wrap x2), .int .u8 (IntKind.u8.wrap ((x3.size : Int) / 4 / 256)), .int .u8 (IntKind.u8.wrap ((x3.size : Int) / 4))] 5)))
              have HB4 := Aside0.mk (hB2.out.alloc (o := .cells #[.int .u8 (IntKind.u8.wrap (wrap64 (128 + x1))), .int .u8 (IntKind.u8.wrap x2), .int .u8 (IntKind.u8.wrap ((x3.size : Int) / 4 / 256)), .int .u8 (IntKind.u8.wrap ((x3.size : Int) / 4))] 5) hB2.out.size).drew
              have HS4 : Aside0 (wo.heap.size ≤ ((wr.alloc (.cells #[.int .u8 (IntKind.u8.wrap (wrap64 (128 + x1))), .int .u8 (IntKind.u8.wrap x2), .int .u8 (IntKind.u8.wrap ((x3.size : Int) / 4 / 256)), .int .u8 (IntKind.u8.wrap ((x3.size : Int) / 4))] 5)).drew).heap.size) := ⟨HB4.out.size⟩
              have HPr := Aside0.mk hPr
              clear hx hT hTl hPr
              go_wp2_with fail
              refine start_ (n := 22) (S := fun w' => w'.cell? (ad.add (k * 3)) = some (.int .i64 x1) ∧ w'.cell? ⟨(ad.add (k * 3)).block, (ad.add (k * 3)).off + 1, none⟩ = some (.int .i64 x2)) (ds := [20]) #[false, false, false, false, false, false, false, false, false, false, false, false, false, false, false, false, false, false, false, false, false, false] (by kernel_rfl) rfl rfl ⟨t0, t1⟩ (fun hHeld => ?_)
              refine pure_ (i := 0) (N := some 85) (v := ?_) (a' := ?_) #[true, false, false, false, false, false, false, false, false, false, false, false, false, false, false, false, false, false, false, false, false, false] rfl rfl (by kernel_rfl) (fun _ _ _ h => h) (Or.inl ⟨by rfl, ?_⟩) ?_ ?_
              rotate_left
              · intro w'
                go_simp
                with_reducible rfl
              rotate_left
              · simp only [Act.put, List.setIfInBounds_toArray, List.set_cons_zero, List.set_cons_succ, i64_w, i32_w]
                rfl
              refine pure_ (i := 1) (N := some 86) (v := ?_) (a' := ?_) #[true, true, false, false, false, false, false, false, false, false, false, false, false, false, false, false, false, false, false, false, false, false] rfl rfl (by kernel_rfl) (fun _ _ _ h => h) (Or.inl ⟨by rfl, ?_⟩) ?_ ?_
              rotate_left
              · intro w'
                go_simp
                with_reducible rfl
              rotate_left
              · simp only [Act.put, List.setIfInBounds_toArray, List.set_cons_zero, List.set_cons_succ, i64_w, i32_w]
                rfl
              refine pure_ (i := 2) (N := some 87) (v := ?_) (a' := ?_) #[true, true, true, false, false, false, false, false, false, false, false, false, false, false, false, false, false, false, false, false, false, false] rfl rfl (by kernel_rfl) (fun _ _ _ h => h) (Or.inl ⟨by rfl, ?_⟩) ?_ ?_
              rotate_left
              · intro w'
                go_simp
                with_reducible rfl
              rotate_left
              · simp only [Act.put, List.setIfInBounds_toArray, List.set_cons_zero, List.set_cons_succ, i64_w, i32_w]
                rfl
              refine pure_ (i := 3) (N := some 88) (v := ?_) (a' := ?_) #[true, true, true, true, false, false, false, false, false, false, false, false, false, false, false, false, false, false, false, false, false, false] rfl rfl (by kernel_rfl) (fun _ _ _ h => h) (Or.inl ⟨by rfl, ?_⟩) ?_ ?_
              rotate_left
              · intro w'
                go_simp
                with_reducible rfl
              rotate_left
              · simp only [Act.put, List.setIfInBounds_toArray, List.set_cons_zero, List.set_cons_succ, i64_w, i32_w]
                rfl
              refine pure_ (i := 4) (N := some 89) (v := ?_) (a' := ?_) #[true, true, true, true, true, false, false, false, false, false, false, false, false, false, false, false, false, false, false, false, false, false] rfl rfl (by kernel_rfl) (fun _ _ _ h => h) (Or.inl ⟨by rfl, ?_⟩) ?_ ?_
              rotate_left
              · intro w'
                go_simp
                with_reducible rfl
              rotate_left
              · simp only [Act.put, List.setIfInBounds_toArray, List.set_cons_zero, List.set_cons_succ, i64_w, i32_w]
                rfl
              refine pure_ (i := 8) (N := some 93) (v := ?_) (a' := ?_) #[true, true, true, true, true, false, false, false, true, false, false, false, false, false, false, false, false, false, false, false, false, false] rfl rfl (by kernel_rfl) (fun _ _ _ h => h) (Or.inl ⟨by rfl, ?_⟩) ?_ ?_
              rotate_left
              · intro w'
                go_simp
                with_reducible rfl
              rotate_left
              · simp only [Act.put, List.setIfInBounds_toArray, List.set_cons_zero, List.set_cons_succ, i64_w, i32_w]
                rfl
              refine pure_ (i := 9) (N := some 94) (v := ?_) (a' := ?_) #[true, true, true, true, true, false, false, false, true, true, false, false, false, false, false, false, false, false, false, false, false, false] rfl rfl (by kernel_rfl) (fun _ _ _ h => h) (Or.inl ⟨by rfl, ?_⟩) ?_ ?_
              rotate_left
              · intro w'
                go_simp
                with_reducible rfl
              rotate_left
              · simp only [Act.put, List.setIfInBounds_toArray, List.set_cons_zero, List.set_cons_succ, i64_w, i32_w]
                rfl
              refine pure_ (i := 10) (N := some 95) (v := ?_) (a' := ?_) #[true, true, true, true, true, false, false, false, true, true, true, false, false, false, false, false, false, false, false, false, false, false] rfl rfl (by kernel_rfl) (fun _ _ _ h => h) (Or.inl ⟨by rfl, ?_⟩) ?_ ?_
              rotate_left
              · intro w'
                go_simp
                with_reducible rfl
              rotate_left
              · simp only [Act.put, List.setIfInBounds_toArray, List.set_cons_zero, List.set_cons_succ, i64_w, i32_w]
                rfl
              refine pure_ (i := 11) (N := some 96) (v := ?_) (a' := ?_) #[true, true, true, true, true, false, false, false, true, true, true, true, false, false, false, false, false, false, false, false, false, false] rfl rfl (by kernel_rfl) (fun _ _ _ h => h) (Or.inl ⟨by rfl, ?_⟩) ?_ ?_
              rotate_left
              · intro w'
                go_simp
                with_reducible rfl
              rotate_left
              · simp only [Act.put, List.setIfInBounds_toArray, List.set_cons_zero, List.set_cons_succ, i64_w, i32_w]
                rfl
              refine pure_ (i := 14) (N := some 99) (v := ?_) (a' := ?_) #[true, true, true, true, true, false, false, false, true, true, true, true, false, false, true, false, false, false, false, false, false, false] rfl rfl (by kernel_rfl) (fun _ _ _ h => h) (Or.inl ⟨by rfl, ?_⟩) ?_ ?_
              rotate_left
              · intro w'
                go_simp
                with_reducible rfl
              rotate_left
              · simp only [Act.put, List.setIfInBounds_toArray, List.set_cons_zero, List.set_cons_succ, i64_w, i32_w]
                rfl
              refine pure_ (i := 15) (N := some 100) (v := ?_) (a' := ?_) #[true, true, true, true, true, false, false, false, true, true, true, true, false, false, true, true, false, false, false, false, false, false] rfl rfl (by kernel_rfl) (fun _ _ _ h => h) (Or.inl ⟨by rfl, ?_⟩) ?_ ?_
              rotate_left
              · intro w'
                go_simp
                with_reducible rfl
              rotate_left
              · simp only [Act.put, List.setIfInBounds_toArray, List.set_cons_zero, List.set_cons_succ, i64_w, i32_w]
                rfl
              refine pure_ (i := 16) (N := some 101) (v := ?_) (a' := ?_) #[true, true, true, true, true, false, false, false, true, true, true, true, false, false, true, true, true, false, false, false, false, false] rfl rfl (by kernel_rfl) (fun _ _ _ h => h) (Or.inl ⟨by rfl, ?_⟩) ?_ ?_
              rotate_left
              · intro w'
                go_simp
                with_reducible rfl
              rotate_left
              · simp only [Act.put, List.setIfInBounds_toArray, List.set_cons_zero, List.set_cons_succ, i64_w, i32_w]
                rfl
              refine pure_ (i := 17) (N := some 102) (v := ?_) (a' := ?_) #[true, true, true, true, true, false, false, false, true, true, true, true, false, false, true, true, true, true, false, false, false, false] rfl rfl (by kernel_rfl) (fun _ _ _ h => h) (Or.inl ⟨by rfl, ?_⟩) ?_ ?_
              rotate_left
              · intro w'
                go_simp
                with_reducible rfl
              rotate_left
              · simp only [Act.put, List.setIfInBounds_toArray, List.set_cons_zero, List.set_cons_succ, i64_w, i32_w]
                rfl
              refine pure_ (i := 18) (N := some 103) (v := ?_) (a' := ?_) #[true, true, true, true, true, false, false, false, true, true, true, true, false, false, true, true, true, true, true, false, false, false] rfl rfl (by kernel_rfl) (fun _ _ _ h => h) (Or.inl ⟨by rfl, ?_⟩) ?_ ?_
              rotate_left
              · intro w'
                go_simp
                with_reducible rfl
              rotate_left
              · simp only [Act.put, List.setIfInBounds_toArray, List.set_cons_zero, List.set_cons_succ, i64_w, i32_w]
                rfl
              refine take_ (i := 5) (N := some 90) (v := ?_) (a' := ?_) #[true, true, true, true, true, true, false, false, true, true, true, true, false, false, true, true, true, true, true, false, false, false] rfl rfl (by kernel_rfl) (fun _ _ _ h => h) (Or.inl ⟨by rfl, ?_⟩) hHeld ?_ ?_
              rotate_left
              · rintro w' ⟨s0, s1⟩
                go_simp
                with_reducible rfl
              rotate_left
              · simp only [Act.put, List.setIfInBounds_toArray, List.set_cons_zero, List.set_cons_succ, i64_w, i32_w]
                rfl
              refine pure_ (i := 6) (N := some 91) (v := ?_) (a' := ?_) #[true, true, true, true, true, true, true, false, true, true, true, true, false, false, true, true, true, true, true, false, false, false] rfl rfl (by kernel_rfl) (fun _ _ _ h => h) (Or.inl ⟨by rfl, ?_⟩) ?_ ?_
              rotate_left
              · intro w'
                go_simp
                with_reducible rfl
              rotate_left
              · simp only [Act.put, List.setIfInBounds_toArray, List.set_cons_zero, List.set_cons_succ, i64_w, i32_w]
                rfl
              refine pure_ (i := 7) (N := some 92) (v := ?_) (a' := ?_) #[true, true, true, true, true, true, true, true, true, true, true, true, false, false, true, true, true, true, true, false, false, false] rfl rfl (by kernel_rfl) (fun _ _ _ h => h) (Or.inl ⟨by rfl, ?_⟩) ?_ ?_
              rotate_left
              · intro w'
                go_simp
                with_reducible rfl
              rotate_left
              · simp only [Act.put, List.setIfInBounds_toArray, List.set_cons_zero, List.set_cons_succ, i64_w, i32_w]
                rfl
              refine take_ (i := 12) (N := some 97) (v := ?_) (a' := ?_) #[true, true, true, true, true, true, true, true, true, true, true, true, true, false, true, true, true, true, true, false, false, false] rfl rfl (by kernel_rfl) (fun _ _ _ h => h) (Or.inl ⟨by rfl, ?_⟩) hHeld ?_ ?_
              rotate_left
              · rintro w' ⟨s0, s1⟩
                go_simp
                with_reducible rfl
              rotate_left
              · simp only [Act.put, List.setIfInBounds_toArray, List.set_cons_zero, List.set_cons_succ, i64_w, i32_w]
                rfl
              refine pure_ (i := 13) (N := some 98) (v := ?_) (a' := ?_) #[true, true, true, true, true, true, true, true, true, true, true, true, true, true, true, true, true, true, true, false, false, false] rfl rfl (by kernel_rfl) (fun _ _ _ h => h) (Or.inl ⟨by rfl, ?_⟩) ?_ ?_
              rotate_left
              · intro w'
                go_simp
                with_reducible rfl
              rotate_left
              · simp only [Act.put, List.setIfInBounds_toArray, List.set_cons_zero, List.set_cons_succ, i64_w, i32_w]
                rfl
              refine one_ (i := 19) (N := some 104) #[true, true, true, true, true, true, true, true, true, true, true, true, true, true, true, true, true, true, true, true, false, false] rfl rfl (by kernel_rfl) (by decide) (fun K hK => ?_)
              refine value_ (w1 := ?_) (v := ?_) (by rfl) rfl ?_ ?_
              rotate_left 2
              · go_simp
                constructor
                · rfl
                · rfl
              refine hK.out _ _ ⟨(m0 _), (m1 _)⟩ (fun hHeld => ?_)
              clear hK K
              refine norm_ (a' := ?_) ?_ ?_
              rotate_left
              · show Act.put _ (some 104) _ = _
                simp only [Act.put, List.setIfInBounds_toArray, List.set_cons_zero, List.set_cons_succ, i64_w, i32_w]
                rfl
              refine last_ (i := 20) (N := some 105) #[true, true, true, true, true, true, true, true, true, true, true, true, true, true, true, true, true, true, true, true, true, false] rfl rfl (by kernel_rfl) (by decide) (fun K hK => ?_)
              refine own_append_step (w := (wr.alloc (.cells #[.int .u8 (IntKind.u8.wrap (wrap64 (128 + x1))), .int .u8 (IntKind.u8.wrap x2), .int .u8 (IntKind.u8.wrap ((x3.size : Int) / 4 / 256)), .int .u8 (IntKind.u8.wrap ((x3.size : Int) / 4))] 5)).drew) (.tmp 85) (.tmp 104) 41 rfl 5 Try.t5 (.int .u8 0) 1 1 Try.underlying41 (by kernel_rfl) rfl rfl rfl (by decide) (by decide) wo.heap.size u8 T (Lib.byteCells (allBytes (l.take k))) (by rfl) HR4.out ⟨wr.heap.size, 0, none⟩ 4 4 [.int .u8 (IntKind.u8.wrap (wrap64 (128 + x1))), .int .u8 (IntKind.u8.wrap x2), .int .u8 (IntKind.u8.wrap ((x3.size : Int) / 4 / 256)), .int .u8 (IntKind.u8.wrap ((x3.size : Int) / 4))] (by rfl) rfl (new_news_drew wr _ _) (by simp [Value.oneCell']) (by simp only [maxLen]; omega) (by omega) HS4.out ?_
              intro v5 w5 hR5 hG5
              refine hK.out _ _ ?_
              clear hK K
              refine norm_ (a' := ?_) ?_ ?_
              rotate_left
              · show Act.put _ (some 105) _ = _
                simp only [Act.put, List.setIfInBounds_toArray, List.set_cons_zero, List.set_cons_succ, i64_w, i32_w]
                rfl
              refine pure_ (i := 21) (N := some 8) (v := ?_) (a' := ?_) #[true, true, true, true, true, true, true, true, true, true, true, true, true, true, true, true, true, true, true, true, true, true] rfl rfl (by kernel_rfl) (fun _ _ _ h => h) (Or.inl ⟨by rfl, ?_⟩) ?_ ?_
              rotate_left
              · intro w'
                go_simp
                with_reducible rfl
              rotate_left
              · simp only [Act.put, List.setIfInBounds_toArray, List.set_cons_zero, List.set_cons_succ, i64_w, i32_w]
                rfl
              refine done_ (by kernel_rfl) ?_
              have hB5 := below_new HB4.out hG5 (fun k hk => (HR4.out.lt k hk).1)
              rw [head_nat, head_cells x1 x2 (x3.size / 4) ⟨y0, y1⟩ ⟨by omega, by omega⟩ (by omega), ← Lib.byteCells_append] at hR5
              have HR5 := Aside0.mk hR5
              have HB5 := Aside0.mk hB5
              obtain ⟨ad', e', _, _, v2⟩ := (HP.out.below (hB.out.trans (hB5.mono hsz0))) k _ HX.out
              injection e' with e'
              subst e'
              dsimp only at v2
              have HS5 := Aside0.mk hB5.size
              clear hR5 hB5 hG5 hHeld t0 t1 t2 m0 m1
              go_wp2_with (at_builtin; go_loud (refine Lib.wpList_append_own_string (w := w5) rfl (.tmp 106) (.tmp 111) 41 9 rfl wo.heap.size 5 Try.t5 Try.underlying41 Try.underlying9 (by kernel_rfl) rfl rfl rfl v5 (T + 4) _ (by rfl) HR5.out x3 (by rfl) (by simp only [maxLen]; omega) (by omega) HS5.out ?_); intro v6 w6 hR6 hG6 hN6; have HR6 := Aside0.mk hR6; have HB6 := Aside0.mk (below_new HB5.out hG6 (fun k hk => (HR5.out.lt k hk).1)); clear hR6 hG6 hN6)
              refine ⟨⟨k + 1, by simp, by rw [← HN.out]; omega, ⟨?_⟩, HB6⟩, by simp [intOf]; omega⟩
              have h := HR6.out
              rw [Lib.strCells_eq, ← Lib.byteCells_append] at h
              have htk : l.take (k + 1) = l.take k ++ [(x1, x2, x3)] := by rw [List.take_add_one, HX.out]; rfl
              have e : allBytes (l.take (k + 1)) = allBytes (l.take k) ++ [UInt8.ofNat (128 + x1.toNat), UInt8.ofNat x2.toNat, UInt8.ofNat (x3.size / 4 / 256), UInt8.ofNat (x3.size / 4 % 256)] ++ x3.data.toList := by
                rw [htk, allBytes_snoc, List.append_assoc]
                rfl
              rw [e, htk, total_snoc, ← HT.out]
              simp only [sizeP]
              rw [← Nat.add_assoc]
              exact h
            · have hkl : l.take k = l := by rw [List.take_of_length_le]; rw [← HN.out]; omega
              rw [hkl] at hR
              have hT0 : 0 < total l := by
                cases l with
                | nil => exact absurd rfl HNE.out
                | cons x m => rw [total_cons]; simp only [sizeP]; omega
              obtain ⟨T, hT⟩ : ∃ T, T = total l := ⟨_, rfl⟩
              rw [← hT] at hR hT0
              obtain ⟨hlen, ⟨rfl, h0⟩ | ⟨g, cap, cur, rfl, hb8, hg8, hn8, hc8, hs8, ht8⟩⟩ := hR.out
              · omega
              have hcv : (convert 41 9 (.slice (some ⟨g, 0, none⟩) T cap)).run Try.prog wr = .ok (.string ⟨(allBytes l).toArray⟩) wr := by
                have hTl : T = (allBytes l).length := by rw [allBytes_length, hT]
                rw [hTl]
                refine run_convert_bytes_back wr 41 9 5 ⟨g, 0, none⟩ cap (allBytes l) Try.underlying41 Try.underlying5 Try.underlying9 (fun j hj => ?_)
                refine hR.out.cells (g := g) rfl j _ ?_
                simp [Lib.byteCells, List.getElem?_eq_getElem hj]
              have q3 : decide ((k : Int) < (kk : Int)) = false := decide_eq_false (by omega)
              have HBF := Aside0.mk (hB.out.trans (hB2.out.mono hsz0))
              clear hT hkl
              go_wp2_with fail
              go_ret2
              exact ⟨by rw [HJ1.out, HJ2.out, HJB.out]; rfl, HBF.out⟩
theorem rjoin_any (A : Option Addr) (c : Nat) (l : List P3) (w : World) (hn1 : l.length ≤ 9223372036854775807) (hP : PartsAt w A l) (hs : ∀ x ∈ l, x.2.2.size ≤ 9223372036854775807) :
    Calls Try.prog 12 #[.slice A l.length c] w fun e w' => e = .returned (.tuple #[.string (joinP l).1, .int .i64 (joinP l).2]) ∧ Below w.heap.size w w' := by
  by_cases h0 : 0 < l.length
  · exact rjoin_walk A c l.length l w rfl h0 hn1 hP hs
  · obtain rfl : l = [] := List.eq_nil_of_length_eq_zero (by omega)
    clear hP hs hn1 h0
    go_enter Try.func12, Try.ntmps12
    go_wp2_with fail
    all_goals go_ret2
    all_goals exact ⟨rfl, Below.refl _ _⟩
end Go.Proofs.Yteegleldmnokkaa.B
