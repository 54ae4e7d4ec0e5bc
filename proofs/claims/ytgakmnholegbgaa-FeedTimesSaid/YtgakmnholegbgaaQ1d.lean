/- What the law leans on, part 4 of 4: plain laws and walks of this session, and words that a tool of the kit printed for it; what nothing leans on is left out. -/
import Derived.Test.YtgakmnholegbgaaRows
import Derived.Test.YtgakmnholegbgaaProg
import Derived.Below
import Derived.Deep.Draws
import Derived.Deep.AppendLies
import Derived.Maps.AppendAt
import Derived.OwnWalk
import Derived.Laws.BytesArg
import Derived.Laws.MakeOwn
import Derived.Laws.OwnMore
import Derived.Deep.OwnRows
import Derived.Tactics
import Derived.Lib.ConvBytes
import Derived.Laws.Slices
import Derived.WalkKit
import Derived.KernelRfl
import Derived.RowKit3
import Derived.Deep.LoopGhost
import Derived.Deep.QuietTactic
import Derived.BigQuiet
import Derived.WideLaws
import Derived.Deep.DeepCutAuto
import Derived.Deep.CutBlock
import Derived.Deep.RegionHeld3
import Derived.Laws.Rows
import Derived.Lib.AppendStr
import Derived.ArgAppend
import Derived.Laws.IdiomCopy
import Derived.OrdersHeld
import Derived.Laws.BitsLemmas
import Derived.RowKit
import Derived.Laws.StructEq
import Derived.BigRegion
import Derived.WalkMore
import Derived.ScopeJumps
import Derived.Outline
import Derived.Laws.Externs
import Derived.Lib.BitFns
import Derived.Deep.Light
import Derived.Lib.Mul64
import Derived.Lib.Strings
import Derived.Lib.Slices
import Derived.Lib.Small
import Derived.Lib.Walk
import Derived.Laws.Bits64b
import Derived.Lib.UnsafeStr
import Derived.Deep.RegionLaw
import Derived.Deep.RegionWith
import Derived.StillTailTactics
import Derived.Defers
import Derived.Recover
import Derived.Laws.Pointers
import Derived.WalkLawsBesides
import Derived.Laws.DeepStrings4
import Derived.Lib.SmallJoins
import Derived.Deep.Slices
import Derived.Deep.Fields
import Derived.ChangeSame
import Derived.ProofKit
import Derived.OpenShut
import Derived.ShutString
import Derived.ChangeOld
import Derived.SizedLaws
import Derived.Test.YtgakmnholegbgaaQ1c
section
namespace Go.Proofs.Ytgakmnholegbgaa.B
open Go.RowKit Go.Proofs.YtgakmnholegbgaaW.PrintWords Go.Proofs.YtgakmnholegbgaaW.PrintLast Go.Proofs.YtgakmnholegbgaaW.PrintMore
set_option linter.unusedVariables false
set_option linter.unusedSimpArgs false
theorem head_natR (s : ByteArray) : ((s.size : Int) / 4) = ((s.size / 4 : Nat) : Int) := by omega
theorem joinP_badR {l : List P3} {x : P3} (hx : x ∈ l) (h : partOk x = false) : joinP l = (⟨#[]⟩, 1) := by
 unfold joinP
 rw [if_neg (by intro e; rw [e] at hx; cases hx), if_pos]
 intro ha
 rw [List.all_eq_true] at ha
 rw [ha x hx] at h
 cases h
theorem owns_drew {w : World} {base : Nat} {e : TypeId} {sz : Nat} {v : Value} {n : Nat} {xs : List Value} (h : w.ownsRow base e sz v n xs) : w.drew.ownsRow base e sz v n xs := h
theorem new_news_drew (w : World) (cs : List Value) (t : TypeId) : ∀ j u, cs[j]? = some u → (w.alloc (.cells cs.toArray t)).drew.cell? ((⟨w.heap.size, 0, none⟩ : Addr).add j) = some u := fun j u h => by
 rw [World.cell?_drew]
 exact new_news w cs t j u h
theorem own_append_step {P : Program} {w : World} {o : Oper} {a : Act} {K : Act → World → Prop} {Q : Exit → Act → World → Prop} (s x : Operand) (t : TypeId)
  (ho : o.op = .call { callee := .builtin .append, args := #[s, x], argTypes := #[t, t] })
  (e : TypeId) (i : TypeInfo) (z : Value) (size bytes : Nat) (ht : P.underlying t = some (.slice e)) (hi : P.info? e = some i) (hz : i.zero = some z)
  (hsize : i.size = size) (hby : i.bytes = bytes) (hzs : z.cells.size = size) (hsz : 0 < size)
  (base : Nat) (v : Value) (n : Nat) (olds : List Value) (hs : a.eval s = v) (HR : w.ownsRow base e size v n olds)
  (ad : Addr) (m c : Nat) (news : List Value) (hx : a.eval x = .slice (some ad) m c) (hl : news.length = m * size) (hnews : ∀ j u, news[j]? = some u → w.cell? (ad.add j) = some u) (h1 : ∀ u ∈ news, u.oneCell' = true)
  (h63 : n + m ≤ maxLen) (hbytes : (n + m) * bytes ≤ 140737488355328) (hbase : base ≤ w.heap.size)
  (h : ∀ v' w', w'.ownsRow base e size v' (n + m) (olds ++ news) → w.grownBy w' v.ownBlock → K (a.put o.dst v') w') : o.wp P a w K Q := by
 obtain ⟨v', w', hr, h2, h3, _⟩ := run_append_own (P := P) w base t o.type e i z size bytes ht hi hz hsize hby hzs hsz v n olds HR ad m c news hl hnews h1 h63 hbytes hbase
 unfold Oper.wp execOp
 simp only [ho, resolve, invoke, builtin, Sem.run_bind, Sem.run_pure, Result.andThen_ok, List.map_toArray, List.map_cons, List.map_nil, hs, hx, hr]
 exact h v' w' h2 h3
theorem head_cells (a b : Int) (n : Nat) (ha : 0 ≤ a ∧ a ≤ 31) (hb : 0 ≤ b ∧ b ≤ 255) (hn : n ≤ 65535) :
  [Value.int .u8 (IntKind.u8.wrap (wrap64 (128 + a))), Value.int .u8 (IntKind.u8.wrap b), Value.int .u8 (IntKind.u8.wrap ((n : Int) / 256)), Value.int .u8 (IntKind.u8.wrap (n : Int))] =
   Lib.byteCells [UInt8.ofNat (128 + a.toNat), UInt8.ofNat b.toNat, UInt8.ofNat (n / 256), UInt8.ofNat (n % 256)] := by
 have w8 : ∀ x : Int, 0 ≤ x → IntKind.u8.wrap x = ((UInt8.ofNat x.toNat).toNat : Int) := fun x hx => by
  rw [show IntKind.u8.wrap x = x % 256 by simp [IntKind.wrap, IntKind.signed, IntKind.bits], UInt8.toNat_ofNat']
  omega
 have e1 : wrap64 (128 + a) = 128 + a := by unfold wrap64; omega
 rw [e1, w8 _ (by omega), w8 b hb.1, w8 _ (by omega), w8 (n : Int) (by omega)]
 have e2 : (128 + a).toNat = 128 + a.toNat := by omega
 have e3 : ((n : Int) / 256).toNat = n / 256 := by omega
 have e4 : UInt8.ofNat n = UInt8.ofNat (n % 256) := by
  apply UInt8.toNat_inj.1
  rw [UInt8.toNat_ofNat', UInt8.toNat_ofNat']
  omega
 rw [e2, e3, Int.toNat_natCast, e4]
 rfl
def RRel1 (w : World) (l : List P3) (v4 : Value) (wr : World) : Prop := ∃ k : Nat, v4 = .int .i64 k ∧ k ≤ l.length ∧ Aside0 (∀ x ∈ l.take k, partOk x = true) ∧ Aside0 (Below w.heap.size w wr)
def RRel2 (wo : World) (l : List P3) (v6 v7 : Value) (wr : World) : Prop := ∃ k : Nat, v7 = .int .i64 k ∧ v6 = .int .i64 (total (l.take k) : Nat) ∧ k ≤ l.length ∧ total (l.take k) ≤ 65536 ∧ wr = wo
def RRel3 (wo : World) (l : List P3) (v8 v9 : Value) (wr : World) : Prop := ∃ k : Nat, v9 = .int .i64 k ∧ k ≤ l.length ∧ Aside0 (wr.ownsRow wo.heap.size 5 1 v8 (total (l.take k)) (Lib.byteCells (allBytes (l.take k)))) ∧ Aside0 (Below wo.heap.size wo wr)
set_option maxHeartbeats 8000000 in
set_option maxRecDepth 100000 in
theorem rjoin_walk (A : Option Addr) (c n : Nat) (l : List P3) (w : World) (hn : n = l.length) (hn0 : 0 < n) (hn1 : n ≤ 9223372036854775807) (hP : PartsAt w A l) (hs : ∀ x ∈ l, x.2.2.size ≤ 9223372036854775807) :
  Calls Try.prog 13 #[.slice A n c] w fun e w' => e = .returned (.tuple #[.string (joinP l).1, .int .i64 (joinP l).2]) ∧ Below w.heap.size w w' := by
 have HP := Aside0.mk hP
 have HS := Aside0.mk hs
 have HN := Aside0.mk hn
 obtain ⟨J1, hJ1⟩ : ∃ J, J = (joinP l).1 := ⟨_, rfl⟩
 obtain ⟨J2, hJ2⟩ : ∃ J, J = (joinP l).2 := ⟨_, rfl⟩
 rw [← hJ1, ← hJ2]
 have HJ1 := Aside0.mk hJ1
 have HJ2 := Aside0.mk hJ2
 have d0 : ((n : Int) == 0) = false := beq_eq_false_iff_ne.2 (by omega)
 clear hP hs hn hJ1 hJ2
 go_enter Try.func13, Try.ntmps13
 go_wp2_with fail
 go_loopw [4, 5] (fun v4 _ wr => RRel1 w l v4 wr) (fun v _ _ => n - (intOf v).toNat)
 case atStart => exact ⟨0, rfl, by omega, ⟨fun x hx => by simp at hx⟩, ⟨Below.refl _ _⟩⟩
 case round =>
  obtain ⟨k, rfl, hk, hOk, hB⟩ := hrel
  rw [← HN.out] at hk
  by_cases hlt : k < n
  ·obtain ⟨⟨x1, x2, x3⟩, hx⟩ : ∃ x, l[k]? = some x := ⟨l[k]'(by rw [← HN.out]; exact hlt), List.getElem?_eq_getElem (by rw [← HN.out]; exact hlt)⟩
   obtain ⟨ad, hA, t0, t1, t2⟩ := (HP.out.below hB.out) k _ hx
   dsimp only at t0 t1 t2
   subst hA
   have hmem : (x1, x2, x3) ∈ l := List.mem_of_getElem? hx
   have hsz := HS.out _ hmem
   dsimp only at hsz
   have htk : l.take (k + 1) = l.take k ++ [(x1, x2, x3)] := by rw [List.take_add_one, hx]; rfl
   have HTK := Aside0.mk htk
   have HM := Aside0.mk hmem
   have HBa := Aside0.mk (hB.out.alloc (o := .cells #[.int .i64 x1, .int .i64 x2, .string x3] 56) hB.out.size)
   have i0 : (0 : Int) ≤ (k : Int) := by omega
   have i1 : (k : Int) < (n : Int) := by omega
   clear hx htk hmem
   cases hok : partOk (x1, x2, x3)
   ·have hno : ¬ (0 ≤ x1 ∧ x1 ≤ 31 ∧ 192 ≤ x2 ∧ x2 ≤ 223 ∧ x3.size % 4 = 0 ∧ x3.size ≤ 262140) := by
     intro h
     have := (partOk_iff (x1, x2, x3)).2 h
     rw [this] at hok
     cases hok
    have HJB := Aside0.mk (joinP_badR HM.out hok)
    clear hok
    go_wp2_with fail
    all_goals first | (exfalso; omega) | skip
    all_goals go_ret2
    all_goals exact ⟨by rw [HJ1.out, HJ2.out, HJB.out]; rfl, HBa.out⟩
   ·have hyes := (partOk_iff (x1, x2, x3)).1 hok
    dsimp only at hyes
    obtain ⟨y0, y1, y2, y3, y4, y5⟩ := hyes
    have HOKX := Aside0.mk hok
    have z3 : ((x3.size : Int) % 4) = 0 := by omega
    clear hok
    go_wp2_with fail
    refine ⟨⟨k + 1, by simp, by rw [← HN.out]; omega, ⟨fun x hx => ?_⟩, HBa⟩, by simp [intOf]; omega⟩
    rw [HTK.out] at hx
    rcases List.mem_append.1 hx with h | h
    ·exact hOk.out x h
    ·rw [List.mem_singleton.1 h]; exact HOKX.out
  ·have hkn : k = l.length := by rw [← HN.out]; omega
   have hta : l.take k = l := by rw [hkn, List.take_length]
   rw [hta] at hOk
   have hne : l ≠ [] := by intro e; have := HN.out; rw [e] at this; simp at this; omega
   have hall : l.all partOk = true := List.all_eq_true.2 hOk.out
   have HNE := Aside0.mk hne
   have HALL := Aside0.mk hall
   have hkn2 : k = n := by rw [hkn, HN.out]
   subst hkn2
   clear hlt hkn hta hne hall
   obtain ⟨wo, rfl⟩ : ∃ wo : World, wo = wr := ⟨_, rfl⟩
   have hsz0 := hB.out.size
   go_wp2_with fail
   go_loopw [6, 7] (fun v6 v7 wr => RRel2 wo l v6 v7 wr) (fun _ v _ => k - (intOf v).toNat)
   case atStart => exact ⟨0, rfl, rfl, by omega, by simp [total], rfl⟩
   case round =>
    obtain ⟨j, rfl, rfl, hj, htj, rfl⟩ := hrel
    obtain ⟨wo, rfl⟩ : ∃ wo : World, wo = wr := ⟨_, rfl⟩
    rw [← HN.out] at hj
    by_cases hlt2 : j < k
    ·obtain ⟨⟨x1, x2, x3⟩, hx⟩ : ∃ x, l[j]? = some x := ⟨l[j]'(by rw [← HN.out]; exact hlt2), List.getElem?_eq_getElem (by rw [← HN.out]; exact hlt2)⟩
     obtain ⟨ad, hA, t0, t1, t2⟩ := (HP.out.below hB.out) j _ hx
     dsimp only at t0 t1 t2
     subst hA
     have hok := (partOk_iff (x1, x2, x3)).1 (hOk.out _ (List.mem_of_getElem? hx))
     dsimp only at hok
     obtain ⟨y0, y1, y2, y3, y4, y5⟩ := hok
     have htk : l.take (j + 1) = l.take j ++ [(x1, x2, x3)] := by rw [List.take_add_one, hx]; rfl
     have hsn := total_snoc (l.take j) (x1, x2, x3)
     rw [← htk] at hsn
     simp only [sizeP] at hsn
     have htl := total_take l (j + 1)
     obtain ⟨T, hT⟩ : ∃ T, T = total (l.take j) := ⟨_, rfl⟩
     rw [← hT] at hsn htj ⊢
     have HSN := Aside0.mk hsn
     have i0 : (0 : Int) ≤ (j : Int) := by omega
     have i1 : (j : Int) < (k : Int) := by omega
     rw [hsn] at htl
     clear hx htk hsn hT
     by_cases hbig : 65536 < T + (4 + x3.size)
     ·have q1 : decide (65536 < (T : Int) + (4 + (x3.size : Int))) = true := decide_eq_true (by omega)
      have hJ : joinP l = (⟨#[]⟩, 2) := by
       unfold joinP
       rw [if_neg HNE.out, if_neg (by rw [HALL.out]; simp), if_pos (by omega)]
      have HJB := Aside0.mk hJ
      clear hJ htl
      go_wp2_with fail
      go_ret2
      exact ⟨by rw [HJ1.out, HJ2.out, HJB.out]; rfl, hB.out⟩
     ·have q1 : decide (65536 < (T : Int) + (4 + (x3.size : Int))) = false := decide_eq_false (by omega)
      clear htl
      go_wp2_with fail
      exact ⟨⟨j + 1, by simp, by rw [HSN.out]; simp, by rw [← HN.out]; omega, by rw [HSN.out]; omega, rfl⟩, by simp [intOf]; omega⟩
    ·have hjl : l.take j = l := by rw [List.take_of_length_le]; rw [← HN.out]; omega
     rw [hjl] at htj ⊢
     have hJ : joinP l = (⟨(allBytes l).toArray⟩, 0) := by
      unfold joinP
      rw [if_neg HNE.out, if_neg (by rw [HALL.out]; simp), if_neg (by omega)]
     have HJB := Aside0.mk hJ
     have HTT := Aside0.mk htj
     have q2 : decide ((j : Int) < (k : Int)) = false := decide_eq_false (by omega)
     clear hJ hjl htj
     go_wp2_with fail
     go_loopw [8, 9, 10] (fun v8 v9 _ wr => RRel3 wo l v8 v9 wr) (fun _ v _ _ => k - (intOf v).toNat)
     case atStart => exact ⟨0, rfl, by omega, ⟨by simpa [total, allBytes, Lib.byteCells] using World.ownsRow_nil wo wo.heap.size 5 1⟩, ⟨Below.refl _ _⟩⟩
     case round =>
      obtain ⟨k2, rfl, hk2, hR, hB2⟩ := hrel
      rw [← HN.out] at hk2
      obtain ⟨kk, hkk⟩ : ∃ kk, kk = k := ⟨_, rfl⟩
      rw [← hkk] at hk2 HN ⊢
      have hkk9 : kk ≤ 9223372036854775807 := by rw [hkk]; exact hn1
      clear hkk
      obtain ⟨k, rfl⟩ : ∃ k3, k3 = k2 := ⟨_, rfl⟩
      by_cases hlt3 : k < kk
      ·obtain ⟨⟨x1, x2, x3⟩, hx⟩ : ∃ x, l[k]? = some x := ⟨l[k]'(by rw [← HN.out]; exact hlt3), List.getElem?_eq_getElem (by rw [← HN.out]; exact hlt3)⟩
       have hBw : Below w.heap.size w wr := hB.out.trans (hB2.out.mono hsz0)
       have hPr := HP.out.below hBw
       obtain ⟨ad, hA, t0, t1, t2⟩ := hPr k _ hx
       dsimp only at t0 t1 t2
       subst hA
       have hok := (partOk_iff (x1, x2, x3)).1 (hOk.out _ (List.mem_of_getElem? hx))
       dsimp only at hok
       obtain ⟨y0, y1, y2, y3, y4, y5⟩ := hok
       have HX := Aside0.mk hx
       have i0 : (0 : Int) ≤ (k : Int) := by omega
       have i1 : (k : Int) < (kk : Int) := by omega
       obtain ⟨T, hT⟩ : ∃ T, T = total (l.take k) := ⟨_, rfl⟩
       rw [← hT] at hR
       have hTl := total_take l k
       have hT9 : T ≤ 65536 := by have := HTT.out; omega
       have HT := Aside0.mk hT
       have hadlt := World.block_lt_of_cell? wr _ t0
       have m0 : ∀ o, (wr.alloc o).cell? (ad.add (k * 3)) = some (.int .i64 x1) := fun o => (World.cell?_of_block (Below.heap_alloc wr o _ hadlt)).trans t0
       have m1 : ∀ o, (wr.alloc o).cell? ⟨(ad.add (k * 3)).block, (ad.add (k * 3)).off + 1, none⟩ = some (.int .i64 x2) := fun o => (World.cell?_of_block (a := ⟨(ad.add (k * 3)).block, (ad.add (k * 3)).off + 1, none⟩) (Below.heap_alloc wr o _ hadlt)).trans t1
       have HR4 := Aside0.mk (owns_drew (hR.out.alloc (.cells #[.int .u8 (IntKind.u8.wrap (wrap64 (128 + x1))), .int .u8 (IntKind.u8.wrap x2), .int .u8 (IntKind.u8.wrap ((x3.size : Int) / 4 / 256)), .int .u8 (IntKind.u8.wrap ((x3.size : Int) / 4))] 5)))
       have HB4 := Aside0.mk (hB2.out.alloc (o := .cells #[.int .u8 (IntKind.u8.wrap (wrap64 (128 + x1))), .int .u8 (IntKind.u8.wrap x2), .int .u8 (IntKind.u8.wrap ((x3.size : Int) / 4 / 256)), .int .u8 (IntKind.u8.wrap ((x3.size : Int) / 4))] 5) hB2.out.size).drew
       have HS4 : Aside0 (wo.heap.size ≤ ((wr.alloc (.cells #[.int .u8 (IntKind.u8.wrap (wrap64 (128 + x1))), .int .u8 (IntKind.u8.wrap x2), .int .u8 (IntKind.u8.wrap ((x3.size : Int) / 4 / 256)), .int .u8 (IntKind.u8.wrap ((x3.size : Int) / 4))] 5)).drew).heap.size) := ⟨HB4.out.size⟩
       have HPr := Aside0.mk hPr
       clear hx hT hTl hPr
       go_wp2_with fail
       refine start_ (n := 22) (S := fun w' => w'.cell? (ad.add (k * 3)) = some (.int .i64 x1) ∧ w'.cell? ⟨(ad.add (k * 3)).block, (ad.add (k * 3)).off + 1, none⟩ = some (.int .i64 x2)) (ds := [20]) #[false, false, false, false, false, false, false, false, false, false, false, false, false, false, false, false, false, false, false, false, false, false] (by kernel_rfl) rfl rfl ⟨t0, t1⟩ (fun hHeld => ?_)
       refine pure_ (i := 0) (N := some 85) (v := ?_) (a' := ?_) #[true, false, false, false, false, false, false, false, false, false, false, false, false, false, false, false, false, false, false, false, false, false] rfl rfl (by kernel_rfl) (fun _ _ _ h => h) (Or.inl ⟨by rfl, ?_⟩) ?_ ?_
       rotate_left
       ·intro w'
        go_simp
        with_reducible rfl
       rotate_left
       ·simp only [Act.put, List.setIfInBounds_toArray, List.set_cons_zero, List.set_cons_succ, i64_w, i32_w]
        rfl
       refine pure_ (i := 1) (N := some 86) (v := ?_) (a' := ?_) #[true, true, false, false, false, false, false, false, false, false, false, false, false, false, false, false, false, false, false, false, false, false] rfl rfl (by kernel_rfl) (fun _ _ _ h => h) (Or.inl ⟨by rfl, ?_⟩) ?_ ?_
       rotate_left
       ·intro w'
        go_simp
        with_reducible rfl
       rotate_left
       ·simp only [Act.put, List.setIfInBounds_toArray, List.set_cons_zero, List.set_cons_succ, i64_w, i32_w]
        rfl
       refine pure_ (i := 2) (N := some 87) (v := ?_) (a' := ?_) #[true, true, true, false, false, false, false, false, false, false, false, false, false, false, false, false, false, false, false, false, false, false] rfl rfl (by kernel_rfl) (fun _ _ _ h => h) (Or.inl ⟨by rfl, ?_⟩) ?_ ?_
       rotate_left
       ·intro w'
        go_simp
        with_reducible rfl
       rotate_left
       ·simp only [Act.put, List.setIfInBounds_toArray, List.set_cons_zero, List.set_cons_succ, i64_w, i32_w]
        rfl
       refine pure_ (i := 3) (N := some 88) (v := ?_) (a' := ?_) #[true, true, true, true, false, false, false, false, false, false, false, false, false, false, false, false, false, false, false, false, false, false] rfl rfl (by kernel_rfl) (fun _ _ _ h => h) (Or.inl ⟨by rfl, ?_⟩) ?_ ?_
       rotate_left
       ·intro w'
        go_simp
        with_reducible rfl
       rotate_left
       ·simp only [Act.put, List.setIfInBounds_toArray, List.set_cons_zero, List.set_cons_succ, i64_w, i32_w]
        rfl
       refine pure_ (i := 4) (N := some 89) (v := ?_) (a' := ?_) #[true, true, true, true, true, false, false, false, false, false, false, false, false, false, false, false, false, false, false, false, false, false] rfl rfl (by kernel_rfl) (fun _ _ _ h => h) (Or.inl ⟨by rfl, ?_⟩) ?_ ?_
       rotate_left
       ·intro w'
        go_simp
        with_reducible rfl
       rotate_left
       ·simp only [Act.put, List.setIfInBounds_toArray, List.set_cons_zero, List.set_cons_succ, i64_w, i32_w]
        rfl
       refine pure_ (i := 8) (N := some 93) (v := ?_) (a' := ?_) #[true, true, true, true, true, false, false, false, true, false, false, false, false, false, false, false, false, false, false, false, false, false] rfl rfl (by kernel_rfl) (fun _ _ _ h => h) (Or.inl ⟨by rfl, ?_⟩) ?_ ?_
       rotate_left
       ·intro w'
        go_simp
        with_reducible rfl
       rotate_left
       ·simp only [Act.put, List.setIfInBounds_toArray, List.set_cons_zero, List.set_cons_succ, i64_w, i32_w]
        rfl
       refine pure_ (i := 9) (N := some 94) (v := ?_) (a' := ?_) #[true, true, true, true, true, false, false, false, true, true, false, false, false, false, false, false, false, false, false, false, false, false] rfl rfl (by kernel_rfl) (fun _ _ _ h => h) (Or.inl ⟨by rfl, ?_⟩) ?_ ?_
       rotate_left
       ·intro w'
        go_simp
        with_reducible rfl
       rotate_left
       ·simp only [Act.put, List.setIfInBounds_toArray, List.set_cons_zero, List.set_cons_succ, i64_w, i32_w]
        rfl
       refine pure_ (i := 10) (N := some 95) (v := ?_) (a' := ?_) #[true, true, true, true, true, false, false, false, true, true, true, false, false, false, false, false, false, false, false, false, false, false] rfl rfl (by kernel_rfl) (fun _ _ _ h => h) (Or.inl ⟨by rfl, ?_⟩) ?_ ?_
       rotate_left
       ·intro w'
        go_simp
        with_reducible rfl
       rotate_left
       ·simp only [Act.put, List.setIfInBounds_toArray, List.set_cons_zero, List.set_cons_succ, i64_w, i32_w]
        rfl
       refine pure_ (i := 11) (N := some 96) (v := ?_) (a' := ?_) #[true, true, true, true, true, false, false, false, true, true, true, true, false, false, false, false, false, false, false, false, false, false] rfl rfl (by kernel_rfl) (fun _ _ _ h => h) (Or.inl ⟨by rfl, ?_⟩) ?_ ?_
       rotate_left
       ·intro w'
        go_simp
        with_reducible rfl
       rotate_left
       ·simp only [Act.put, List.setIfInBounds_toArray, List.set_cons_zero, List.set_cons_succ, i64_w, i32_w]
        rfl
       refine pure_ (i := 14) (N := some 99) (v := ?_) (a' := ?_) #[true, true, true, true, true, false, false, false, true, true, true, true, false, false, true, false, false, false, false, false, false, false] rfl rfl (by kernel_rfl) (fun _ _ _ h => h) (Or.inl ⟨by rfl, ?_⟩) ?_ ?_
       rotate_left
       ·intro w'
        go_simp
        with_reducible rfl
       rotate_left
       ·simp only [Act.put, List.setIfInBounds_toArray, List.set_cons_zero, List.set_cons_succ, i64_w, i32_w]
        rfl
       refine pure_ (i := 15) (N := some 100) (v := ?_) (a' := ?_) #[true, true, true, true, true, false, false, false, true, true, true, true, false, false, true, true, false, false, false, false, false, false] rfl rfl (by kernel_rfl) (fun _ _ _ h => h) (Or.inl ⟨by rfl, ?_⟩) ?_ ?_
       rotate_left
       ·intro w'
        go_simp
        with_reducible rfl
       rotate_left
       ·simp only [Act.put, List.setIfInBounds_toArray, List.set_cons_zero, List.set_cons_succ, i64_w, i32_w]
        rfl
       refine pure_ (i := 16) (N := some 101) (v := ?_) (a' := ?_) #[true, true, true, true, true, false, false, false, true, true, true, true, false, false, true, true, true, false, false, false, false, false] rfl rfl (by kernel_rfl) (fun _ _ _ h => h) (Or.inl ⟨by rfl, ?_⟩) ?_ ?_
       rotate_left
       ·intro w'
        go_simp
        with_reducible rfl
       rotate_left
       ·simp only [Act.put, List.setIfInBounds_toArray, List.set_cons_zero, List.set_cons_succ, i64_w, i32_w]
        rfl
       refine pure_ (i := 17) (N := some 102) (v := ?_) (a' := ?_) #[true, true, true, true, true, false, false, false, true, true, true, true, false, false, true, true, true, true, false, false, false, false] rfl rfl (by kernel_rfl) (fun _ _ _ h => h) (Or.inl ⟨by rfl, ?_⟩) ?_ ?_
       rotate_left
       ·intro w'
        go_simp
        with_reducible rfl
       rotate_left
       ·simp only [Act.put, List.setIfInBounds_toArray, List.set_cons_zero, List.set_cons_succ, i64_w, i32_w]
        rfl
       refine pure_ (i := 18) (N := some 103) (v := ?_) (a' := ?_) #[true, true, true, true, true, false, false, false, true, true, true, true, false, false, true, true, true, true, true, false, false, false] rfl rfl (by kernel_rfl) (fun _ _ _ h => h) (Or.inl ⟨by rfl, ?_⟩) ?_ ?_
       rotate_left
       ·intro w'
        go_simp
        with_reducible rfl
       rotate_left
       ·simp only [Act.put, List.setIfInBounds_toArray, List.set_cons_zero, List.set_cons_succ, i64_w, i32_w]
        rfl
       refine take_ (i := 5) (N := some 90) (v := ?_) (a' := ?_) #[true, true, true, true, true, true, false, false, true, true, true, true, false, false, true, true, true, true, true, false, false, false] rfl rfl (by kernel_rfl) (fun _ _ _ h => h) (Or.inl ⟨by rfl, ?_⟩) hHeld ?_ ?_
       rotate_left
       ·rintro w' ⟨s0, s1⟩
        go_simp
        with_reducible rfl
       rotate_left
       ·simp only [Act.put, List.setIfInBounds_toArray, List.set_cons_zero, List.set_cons_succ, i64_w, i32_w]
        rfl
       refine pure_ (i := 6) (N := some 91) (v := ?_) (a' := ?_) #[true, true, true, true, true, true, true, false, true, true, true, true, false, false, true, true, true, true, true, false, false, false] rfl rfl (by kernel_rfl) (fun _ _ _ h => h) (Or.inl ⟨by rfl, ?_⟩) ?_ ?_
       rotate_left
       ·intro w'
        go_simp
        with_reducible rfl
       rotate_left
       ·simp only [Act.put, List.setIfInBounds_toArray, List.set_cons_zero, List.set_cons_succ, i64_w, i32_w]
        rfl
       refine pure_ (i := 7) (N := some 92) (v := ?_) (a' := ?_) #[true, true, true, true, true, true, true, true, true, true, true, true, false, false, true, true, true, true, true, false, false, false] rfl rfl (by kernel_rfl) (fun _ _ _ h => h) (Or.inl ⟨by rfl, ?_⟩) ?_ ?_
       rotate_left
       ·intro w'
        go_simp
        with_reducible rfl
       rotate_left
       ·simp only [Act.put, List.setIfInBounds_toArray, List.set_cons_zero, List.set_cons_succ, i64_w, i32_w]
        rfl
       refine take_ (i := 12) (N := some 97) (v := ?_) (a' := ?_) #[true, true, true, true, true, true, true, true, true, true, true, true, true, false, true, true, true, true, true, false, false, false] rfl rfl (by kernel_rfl) (fun _ _ _ h => h) (Or.inl ⟨by rfl, ?_⟩) hHeld ?_ ?_
       rotate_left
       ·rintro w' ⟨s0, s1⟩
        go_simp
        with_reducible rfl
       rotate_left
       ·simp only [Act.put, List.setIfInBounds_toArray, List.set_cons_zero, List.set_cons_succ, i64_w, i32_w]
        rfl
       refine pure_ (i := 13) (N := some 98) (v := ?_) (a' := ?_) #[true, true, true, true, true, true, true, true, true, true, true, true, true, true, true, true, true, true, true, false, false, false] rfl rfl (by kernel_rfl) (fun _ _ _ h => h) (Or.inl ⟨by rfl, ?_⟩) ?_ ?_
       rotate_left
       ·intro w'
        go_simp
        with_reducible rfl
       rotate_left
       ·simp only [Act.put, List.setIfInBounds_toArray, List.set_cons_zero, List.set_cons_succ, i64_w, i32_w]
        rfl
       refine one_ (i := 19) (N := some 104) #[true, true, true, true, true, true, true, true, true, true, true, true, true, true, true, true, true, true, true, true, false, false] rfl rfl (by kernel_rfl) (by decide) (fun K hK => ?_)
       refine value_ (w1 := ?_) (v := ?_) (by rfl) rfl ?_ ?_
       rotate_left 2
       ·go_simp
        constructor
        ·rfl
        ·rfl
       refine hK.out _ _ ⟨(m0 _), (m1 _)⟩ (fun hHeld => ?_)
       clear hK K
       refine norm_ (a' := ?_) ?_ ?_
       rotate_left
       ·show Act.put _ (some 104) _ = _
        simp only [Act.put, List.setIfInBounds_toArray, List.set_cons_zero, List.set_cons_succ, i64_w, i32_w]
        rfl
       refine last_ (i := 20) (N := some 105) #[true, true, true, true, true, true, true, true, true, true, true, true, true, true, true, true, true, true, true, true, true, false] rfl rfl (by kernel_rfl) (by decide) (fun K hK => ?_)
       refine own_append_step (w := (wr.alloc (.cells #[.int .u8 (IntKind.u8.wrap (wrap64 (128 + x1))), .int .u8 (IntKind.u8.wrap x2), .int .u8 (IntKind.u8.wrap ((x3.size : Int) / 4 / 256)), .int .u8 (IntKind.u8.wrap ((x3.size : Int) / 4))] 5)).drew) (.tmp 85) (.tmp 104) 87 rfl 5 Try.t5 (.int .u8 0) 1 1 Try.underlying87 (by kernel_rfl) rfl rfl rfl (by decide) (by decide) wo.heap.size u8 T (Lib.byteCells (allBytes (l.take k))) (by rfl) HR4.out ⟨wr.heap.size, 0, none⟩ 4 4 [.int .u8 (IntKind.u8.wrap (wrap64 (128 + x1))), .int .u8 (IntKind.u8.wrap x2), .int .u8 (IntKind.u8.wrap ((x3.size : Int) / 4 / 256)), .int .u8 (IntKind.u8.wrap ((x3.size : Int) / 4))] (by rfl) rfl (new_news_drew wr _ _) (by simp [Value.oneCell']) (by simp only [maxLen]; omega) (by omega) HS4.out ?_
       intro v5 w5 hR5 hG5
       refine hK.out _ _ ?_
       clear hK K
       refine norm_ (a' := ?_) ?_ ?_
       rotate_left
       ·show Act.put _ (some 105) _ = _
        simp only [Act.put, List.setIfInBounds_toArray, List.set_cons_zero, List.set_cons_succ, i64_w, i32_w]
        rfl
       refine pure_ (i := 21) (N := some 8) (v := ?_) (a' := ?_) #[true, true, true, true, true, true, true, true, true, true, true, true, true, true, true, true, true, true, true, true, true, true] rfl rfl (by kernel_rfl) (fun _ _ _ h => h) (Or.inl ⟨by rfl, ?_⟩) ?_ ?_
       rotate_left
       ·intro w'
        go_simp
        with_reducible rfl
       rotate_left
       ·simp only [Act.put, List.setIfInBounds_toArray, List.set_cons_zero, List.set_cons_succ, i64_w, i32_w]
        rfl
       refine done_ (by kernel_rfl) ?_
       have hB5 := below_new HB4.out hG5 (fun k hk => (HR4.out.lt k hk).1)
       rw [head_natR, head_cells x1 x2 (x3.size / 4) ⟨y0, y1⟩ ⟨by omega, by omega⟩ (by omega), ← Lib.byteCells_append] at hR5
       have HR5 := Aside0.mk hR5
       have HB5 := Aside0.mk hB5
       obtain ⟨ad', e', _, _, v2⟩ := (HP.out.below (hB.out.trans (hB5.mono hsz0))) k _ HX.out
       injection e' with e'
       subst e'
       dsimp only at v2
       have HS5 := Aside0.mk hB5.size
       clear hR5 hB5 hG5 hHeld t0 t1 t2 m0 m1
       go_wp2_with (at_builtin; go_loud (refine Lib.wpList_append_own_string (w := w5) rfl (.tmp 106) (.tmp 111) 87 9 rfl wo.heap.size 5 Try.t5 Try.underlying87 Try.underlying9 (by kernel_rfl) rfl rfl rfl v5 (T + 4) _ (by rfl) HR5.out x3 (by rfl) (by simp only [maxLen]; omega) (by omega) HS5.out ?_); intro v6 w6 hR6 hG6 hN6; have HR6 := Aside0.mk hR6; have HB6 := Aside0.mk (below_new HB5.out hG6 (fun k hk => (HR5.out.lt k hk).1)); clear hR6 hG6 hN6)
       refine ⟨⟨k + 1, by simp, by rw [← HN.out]; omega, ⟨?_⟩, HB6⟩, by simp [intOf]; omega⟩
       have h := HR6.out
       rw [Lib.strCells_eq, ← Lib.byteCells_append] at h
       have htk : l.take (k + 1) = l.take k ++ [(x1, x2, x3)] := by rw [List.take_add_one, HX.out]; rfl
       have e : allBytes (l.take (k + 1)) = allBytes (l.take k) ++ [UInt8.ofNat (128 + x1.toNat), UInt8.ofNat x2.toNat, UInt8.ofNat (x3.size / 4 / 256), UInt8.ofNat (x3.size / 4 % 256)] ++ x3.data.toList := by
        rw [htk, allBytes_snoc, List.append_assoc]
        rfl
       rw [e, htk, total_snoc, ← HT.out]
       simp only [sizeP]
       rw [← Nat.add_assoc]
       exact h
      ·have hkl : l.take k = l := by rw [List.take_of_length_le]; rw [← HN.out]; omega
       rw [hkl] at hR
       have hT0 : 0 < total l := by
        cases l with
        | nil => exact absurd rfl HNE.out
        | cons x m => rw [total_cons]; simp only [sizeP]; omega
       obtain ⟨T, hT⟩ : ∃ T, T = total l := ⟨_, rfl⟩
       rw [← hT] at hR hT0
       obtain ⟨hlen, ⟨rfl, h0⟩ | ⟨g, cap, cur, rfl, hb8, hg8, hn8, hc8, hs8, ht8⟩⟩ := hR.out
       ·omega
       have hcv : (convert 87 9 (.slice (some ⟨g, 0, none⟩) T cap)).run Try.prog wr = .ok (.string ⟨(allBytes l).toArray⟩) wr := by
        have hTl : T = (allBytes l).length := by rw [allBytes_length, hT]
        rw [hTl]
        refine run_convert_bytes_back wr 87 9 5 ⟨g, 0, none⟩ cap (allBytes l) Try.underlying87 Try.underlying5 Try.underlying9 (fun j hj => ?_)
        refine hR.out.cells (g := g) rfl j _ ?_
        simp [Lib.byteCells, List.getElem?_eq_getElem hj]
       have q3 : decide ((k : Int) < (kk : Int)) = false := decide_eq_false (by omega)
       have HBF := Aside0.mk (hB.out.trans (hB2.out.mono hsz0))
       clear hT hkl
       go_wp2_with fail
       go_ret2
       exact ⟨by rw [HJ1.out, HJ2.out, HJB.out]; rfl, HBF.out⟩
theorem rjoin_any (A : Option Addr) (c : Nat) (l : List P3) (w : World) (hn1 : l.length ≤ 9223372036854775807) (hP : PartsAt w A l) (hs : ∀ x ∈ l, x.2.2.size ≤ 9223372036854775807) :
  Calls Try.prog 13 #[.slice A l.length c] w fun e w' => e = .returned (.tuple #[.string (joinP l).1, .int .i64 (joinP l).2]) ∧ Below w.heap.size w w' := by
 by_cases h0 : 0 < l.length
 ·exact rjoin_walk A c l.length l w rfl h0 hn1 hP hs
 ·obtain rfl : l = [] := List.eq_nil_of_length_eq_zero (by omega)
  clear hP hs hn1 h0
  go_enter Try.func13, Try.ntmps13
  go_wp2_with fail
  all_goals go_ret2
  all_goals exact ⟨rfl, Below.refl _ _⟩
end Go.Proofs.Ytgakmnholegbgaa.B
end
section
namespace Go.Proofs.Ytgakmnholegbgaa.B
open Go.RowKit Go.Proofs.YtgakmnholegbgaaW.PrintWords Go.Proofs.YtgakmnholegbgaaW.PrintLast Go.Proofs.YtgakmnholegbgaaW.PrintMore
set_option linter.unusedVariables false
set_option linter.unusedSimpArgs false
def lenW (p : Nat) (w : World) : Nat := (intOf ((w.cell? ⟨p, 1, none⟩).getD undef)).toNat
theorem lenW_is {w : World} {p T E : Nat} {l : List Bool} (h : WrIs w p T E l) : lenW p w = l.length := by
 obtain ⟨v, hp, _⟩ := h
 have h1 := blk_cell hp 1
 simp only [List.getElem?_toArray, List.getElem?_cons_zero, List.getElem?_cons_succ] at h1
 unfold lenW
 rw [h1]
 simp [intOf]
set_option maxHeartbeats 4000000 in
theorem ralign_any (w : World) (p : Nat) (l : List Bool) (h : WrIs w p 123 5 l) (hl : l.length + 32 ≤ 524288) :
  Calls Try.prog 31 #[.pointer (some ⟨p, 0, none⟩), .int .i64 32] w fun e w' => e = .returned (.tuple #[]) ∧ WrIs w' p 123 5 (l ++ List.replicate ((32 - l.length % 32) % 32) false) ∧ Below p w w' := by
 have h' := h
 obtain ⟨vv, hp, HO⟩ := h'
 have h1 := blk_cell hp 1
 simp only [List.getElem?_toArray, List.getElem?_cons_zero, List.getElem?_cons_succ] at h1
 have H := Aside0.mk h
 clear hp HO h
 go_enter Try.func31, Try.ntmps31
 have qd : decide (524288 - (l.length : Int) < -((l.length : Int) % 32) % 32) = false := decide_eq_false (by omega)
 obtain ⟨K, hK⟩ : ∃ K, K = (32 - l.length % 32) % 32 := ⟨_, rfl⟩
 rw [← hK]
 have HK := Aside0.mk hK
 clear hK
 go_wp2
 go_region
 go_wp2_with fail
 clear qd h1
 generalize ((32 - (l.length : Int) % 32) % 32) = V20
 go_loopw [28] (fun _ wr => ∃ j : Nat, j ≤ K ∧ Aside0 (WrIs wr p 123 5 (l ++ List.replicate j false)) ∧ Aside0 (Below p w wr)) (fun _ wr => l.length + K - lenW p wr)
 case atStart => exact ⟨0, Nat.zero_le _, ⟨by rw [List.replicate_zero, List.append_nil]; exact H.out⟩, ⟨(Below.refl _ _).drew⟩⟩
 case round =>
  clear H
  obtain ⟨j, hj, H, HB⟩ := hrel
  have HL := Aside0.mk (lenW_is H.out)
  obtain ⟨vv2, hp, HO⟩ := H.out
  have h1 := blk_cell hp 1
  simp only [List.getElem?_toArray, List.getElem?_cons_zero, List.getElem?_cons_succ] at h1
  rw [List.length_append, List.length_replicate] at h1
  clear hp HO
  have hKK := HK.out
  by_cases hlt : j < K
  ·have q1 : (((l.length : Int) + (j : Int)) % 32 != 0) = true := by simp; omega
   clear hKK
   go_wp2_with fail
   refine (bit_any _ p _ false H.out (by rw [List.length_append, List.length_replicate]; have := HK.out; omega)).mono ?_
   rintro e w1 ⟨rfl, hW, hB⟩
   have HW := Aside0.mk hW
   have HB1 := Aside0.mk (HB.out.trans hB)
   clear hW hB
   go_wp2_with fail
   refine ⟨⟨j + 1, by omega, ⟨?_⟩, HB1⟩, ?_⟩
   ·rw [List.replicate_succ', ← List.append_assoc]
    exact HW.out
   ·show l.length + K - lenW p _ < l.length + K - lenW p _
    rw [HL.out, lenW_is HW.out]
    simp only [List.length_append, List.length_replicate, List.length_cons, List.length_nil]
    omega
  ·have hjk : j = K := by omega
   have q1 : (((l.length : Int) + (j : Int)) % 32 != 0) = false := by simp; omega
   rw [hjk] at H
   clear hKK hjk
   go_wp2_with fail
   go_end0
   exact ⟨rfl, H.out, HB.out⟩
end Go.Proofs.Ytgakmnholegbgaa.B
end
section
namespace Go.Proofs.Ytgakmnholegbgaa.B
open Go.RowKit Go.Proofs.YtgakmnholegbgaaW.PrintWords Go.Proofs.YtgakmnholegbgaaW.PrintLast Go.Proofs.YtgakmnholegbgaaW.PrintMore
set_option linter.unusedVariables false
set_option linter.unusedSimpArgs false
def rowBits (l : List Int) (bits n : Nat) : List Bool := (List.range n).flatMap fun i => toBits bits (l.getD i 0).toNat
theorem rowBits_succ (l : List Int) (bits n : Nat) : rowBits l bits (n + 1) = rowBits l bits n ++ toBits bits (l.getD n 0).toNat := by simp [rowBits, List.range_succ]
theorem rowBits_length (l : List Int) (bits n : Nat) : (rowBits l bits n).length = n * bits := by
 induction n with
 | zero => simp [rowBits]
 | succ n ih => rw [rowBits_succ, List.length_append, toBits_length, ih, Nat.add_mul]; omega
set_option maxHeartbeats 4000000 in
set_option maxRecDepth 100000 in
theorem rrow_any (w : World) (p g o c : Nat) (L : List Bool) (l : List Int) (n bits : Nat) (hW : WrIs w p 123 5 L) (hg : g < p) (hl : ∀ i x, l[i]? = some x → w.cell? ⟨g, o + i, none⟩ = some (.int .i64 x) ∧ 0 ≤ x ∧ x < 4294967296) (hn : n ≤ 100) (hb : bits ≤ 32) (hL : L.length + n * bits ≤ 524288) (hll : l.length ≤ 4096) :
  Calls Try.prog 35 #[.pointer (some ⟨p, 0, none⟩), .slice (some ⟨g, o, none⟩) l.length c, .int .i64 (n : Int), .int .i64 (bits : Int)] w fun e w' => e = .returned (.tuple #[]) ∧ WrIs w' p 123 5 (L ++ rowBits l bits n) ∧ Below p w w' := by
 have HL := Aside0.mk hl
 have HW := Aside0.mk hW
 have HLn := Aside0.mk hL
 clear hl hW hL
 go_enter Try.func35, Try.ntmps35
 go_wp2_with fail
 go_loopw [8, 9] (fun v8 _ wr => ∃ i : Nat, v8 = .int .i64 i ∧ i ≤ n ∧ Aside0 (WrIs wr p 123 5 (L ++ rowBits l bits i)) ∧ Aside0 (Below p w wr)) (fun v _ _ => n - (intOf v).toNat)
 case atStart => exact ⟨0, rfl, by omega, ⟨by rw [show rowBits l bits 0 = [] from rfl, List.append_nil]; exact HW.out⟩, ⟨Below.refl _ _⟩⟩
 case round =>
  clear HW
  obtain ⟨i, rfl, hi, HW, HB⟩ := hrel
  by_cases hlt : i < n
  ·have q4 : decide ((i : Int) < (n : Int)) = true := decide_eq_true (by omega)
   have hlen : (L ++ rowBits l bits i).length + bits ≤ 524288 := by
    rw [List.length_append, rowBits_length]
    have h1 := HLn.out
    have h2 : i * bits + bits ≤ n * bits := by rw [← Nat.succ_mul]; exact Nat.mul_le_mul_right _ hlt
    omega
   have HLE := Aside0.mk hlen
   clear hlen
   by_cases hil : i < l.length
   ·have q5 : decide ((i : Int) < (l.length : Int)) = true := decide_eq_true (by omega)
    obtain ⟨x, hx⟩ : ∃ x, l[i]? = some x := ⟨l[i]'hil, List.getElem?_eq_getElem hil⟩
    obtain ⟨ux, x0, x1⟩ := HL.out i x hx
    have ux' := (World.cell?_of_block (a := ⟨g, o + i, none⟩) (HB.out.block g hg)).trans ux
    have i0 : (0 : Int) ≤ (i : Int) := by omega
    have i1 : (i : Int) < (l.length : Int) := by omega
    have HX := Aside0.mk hx
    clear hx ux
    go_wp2_with fail
    obtain ⟨X, hX⟩ : ∃ X : Nat, X = x.toNat := ⟨_, rfl⟩
    have e1 : x = (X : Int) := by omega
    subst e1
    clear hX
    refine (rput_any _ p _ X bits HW.out (by omega) hb HLE.out).mono ?_
    rintro e w1 ⟨rfl, hW1, hB1⟩
    have HW1 := Aside0.mk hW1
    have HB1 := Aside0.mk (HB.out.trans hB1)
    clear hW1 hB1 ux'
    go_wp2_with fail
    refine ⟨⟨i + 1, by simp, by omega, ⟨?_⟩, HB1⟩, by simp [intOf]; omega⟩
    rw [rowBits_succ, ← List.append_assoc, show l.getD i 0 = (X : Int) by simp [HX.out], Int.toNat_natCast]
    exact HW1.out
   ·have q5 : decide ((i : Int) < (l.length : Int)) = false := decide_eq_false (by omega)
    go_wp2_with fail
    refine (rput_any _ p _ 0 bits HW.out (by omega) hb HLE.out).mono ?_
    rintro e w1 ⟨rfl, hW1, hB1⟩
    have HW1 := Aside0.mk hW1
    have HB1 := Aside0.mk (HB.out.trans hB1)
    clear hW1 hB1
    go_wp2_with fail
    refine ⟨⟨i + 1, by simp, by omega, ⟨?_⟩, HB1⟩, by simp [intOf]; omega⟩
    rw [rowBits_succ, ← List.append_assoc, show l.getD i 0 = 0 by simp [List.getElem?_eq_none (Nat.not_lt.1 hil)]]
    exact HW1.out
  ·have q4 : decide ((i : Int) < (n : Int)) = false := decide_eq_false (by omega)
   have hin : i = n := by omega
   rw [hin] at HW
   clear hin
   go_wp2_with fail
   go_end0
   exact ⟨rfl, HW.out, HB.out⟩
set_option maxHeartbeats 4000000 in
theorem alike1 (w : World) (ga : Nat) (k0 : w.cell? ⟨ga, 0, none⟩ = some (.int .i64 1)) (k1 : w.cell? ⟨ga, 1, none⟩ = some (.int .i64 0)) : Calls Try.prog 34 #[.slice (some ⟨ga, 0, none⟩) 3 3, .int .i64 0] w fun e w' => e = .returned (.int .i64 1) ∧ Drawn0 w w' := by
 go_enter Try.func34, Try.ntmps34
 go_wp2_with fail
 go_loopw [5] (fun v5 wr => ∃ n : Nat, v5 = .int .i64 n ∧ n ≤ 1 ∧ Aside0 (Drawn0 w wr)) (fun v _ => 2 - (intOf v).toNat)
 case atStart => exact ⟨0, rfl, by omega, ⟨⟨0, rfl⟩⟩⟩
 case round =>
  obtain ⟨n, rfl, hn, HD⟩ := hrel
  have k0' : wr.cell? ⟨ga, 0, none⟩ = some (.int .i64 1) := by obtain ⟨m, rfl⟩ := HD.out; exact k0
  have k1' : wr.cell? ⟨ga, 1, none⟩ = some (.int .i64 0) := by obtain ⟨m, rfl⟩ := HD.out; exact k1
  rcases (show n = 0 ∨ n = 1 by omega) with rfl | rfl
  ·go_wp2_with fail
   go_region
   go_wp2_with fail
   exact ⟨⟨1, by simp, by omega, ⟨by obtain ⟨m, rfl⟩ := HD.out; exact ⟨m + 1, rfl⟩⟩⟩, by simp [intOf]⟩
  ·go_wp2_with fail
   go_region
   go_wp2_with fail
   go_ret
   exact ⟨rfl, by obtain ⟨m, rfl⟩ := HD.out; exact ⟨m + 1, rfl⟩⟩
set_option maxHeartbeats 8000000 in
set_option maxRecDepth 100000 in
theorem good1 (w : World) (ga gb : Nat) (ka : w.heap[ga]? = some (.cells #[.int .i64 1, .int .i64 0, .int .i64 1] 3 (0, 0))) (kb : w.heap[gb]? = some (.cells #[.int .i64 4, .int .i64 8] 3 (0, 0))) : Calls Try.prog 33 #[.agg #[.int .u32 0, .int .u32 0, .int .i64 5, .int .i64 2, .int .i64 0, .slice (some ⟨ga, 0, none⟩) 3 3, .slice (some ⟨gb, 0, none⟩) 2 2]] w fun e w' => e = .returned (.bool true) ∧ Below w.heap.size w w' := by
 have la := blk_lt ka
 have lb := blk_lt kb
 have a0 := blk_cell ka 0
 have a1 := blk_cell ka 1
 have a2 := blk_cell ka 2
 have b0 := blk_cell kb 0
 have b1 := blk_cell kb 1
 simp only [List.getElem?_toArray, List.getElem?_cons_zero, List.getElem?_cons_succ] at a0 a1 a2 b0 b1
 have za0 : ∀ o, (w.alloc o).cell? ⟨ga, 0, none⟩ = some (.int .i64 1) := fun o => (World.cell?_alloc_past _ _ _ la).trans a0
 have za1 : ∀ o, (w.alloc o).cell? ⟨ga, 1, none⟩ = some (.int .i64 0) := fun o => (World.cell?_alloc_past _ _ _ la).trans a1
 have za2 : ∀ o, (w.alloc o).cell? ⟨ga, 2, none⟩ = some (.int .i64 1) := fun o => (World.cell?_alloc_past _ _ _ la).trans a2
 have zb0 : ∀ o, (w.alloc o).cell? ⟨gb, 0, none⟩ = some (.int .i64 4) := fun o => (World.cell?_alloc_past _ _ _ lb).trans b0
 have zb1 : ∀ o, (w.alloc o).cell? ⟨gb, 1, none⟩ = some (.int .i64 8) := fun o => (World.cell?_alloc_past _ _ _ lb).trans b1
 clear a0 a1 a2 b0 b1 ka kb
 go_enter Try.func33, Try.ntmps33
 go_wp2_with fail
 go_loop [3, 4, 5] (fun v3 v4 _ => (v4 = .int .i64 0 ∧ v3 = .int .i64 0) ∨ (v4 = .int .i64 1 ∧ v3 = .int .i64 1) ∨ (v4 = .int .i64 2 ∧ v3 = .int .i64 1) ∨ (v4 = .int .i64 3 ∧ v3 = .int .i64 2)) (fun _ v _ => 3 - (intOf v).toNat)
 case atStart => exact .inl ⟨rfl, rfl⟩
 case round =>
  rcases hrel with ⟨rfl, rfl⟩ | ⟨rfl, rfl⟩ | ⟨rfl, rfl⟩ | ⟨rfl, rfl⟩
  ·go_wp2_with fail
   exact ⟨.inr (.inl ⟨rfl, rfl⟩), by simp [intOf]⟩
  ·go_wp2_with fail
   exact ⟨.inr (.inr (.inl ⟨rfl, rfl⟩)), by simp [intOf]⟩
  ·go_wp2_with fail
   exact ⟨.inr (.inr (.inr ⟨rfl, rfl⟩)), by simp [intOf]⟩
  ·go_wp2_with fail
   go_ret
   exact ⟨rfl, (Below.refl _ _).alloc (Nat.le_refl _) _⟩
structure ES (w0 w : World) (g1 ga gb p : Nat) (L : List Bool) : Prop where
 wr : WrIs w p 123 5 L
 k1 : w.heap[g1]? = some (.cells #[.int .u32 0, .int .u32 0, .int .i64 5, .int .i64 2, .int .i64 0, .slice (some ⟨ga, 0, none⟩) 3 3, .slice (some ⟨gb, 0, none⟩) 2 2] 63 (0, 0))
 ka : w.heap[ga]? = some (.cells #[.int .i64 1, .int .i64 0, .int .i64 1] 3 (0, 0))
 kb : w.heap[gb]? = some (.cells #[.int .i64 4, .int .i64 8] 3 (0, 0))
 bel : Below w0.heap.size w0 w
 l1 : g1 < p
 la : ga < p
 lb : gb < p
 wp : w0.heap.size ≤ p
theorem ES.put {w0 w w' : World} {g1 ga gb p : Nat} {L L' : List Bool} (h : ES w0 w g1 ga gb p L) (hW : WrIs w' p 123 5 L') (hB : Below p w w') : ES w0 w' g1 ga gb p L' :=
 ⟨hW, (hB.block g1 h.l1).trans h.k1, (hB.block ga h.la).trans h.ka, (hB.block gb h.lb).trans h.kb, h.bel.trans (hB.mono h.wp), h.l1, h.la, h.lb, h.wp⟩
theorem hd_below (w : World) (n : Nat) : Below w.heap.size w (w.drewN n) := Drawn0.below ⟨n, rfl⟩
theorem ES.drawn {w0 w w' : World} {g1 ga gb p : Nat} {L : List Bool} (h : ES w0 w g1 ga gb p L) (hd : Drawn0 w w') : ES w0 w' g1 ga gb p L := by
 obtain ⟨n, rfl⟩ := hd
 exact ⟨h.wr, h.k1, h.ka, h.kb, h.bel.trans ((hd_below w n).mono h.bel.size), h.l1, h.la, h.lb, h.wp⟩
def encH : List Bool := toBits 32 0 ++ toBits 32 0 ++ toBits 16 5 ++ toBits 16 3 ++ toBits 24 2 ++ toBits 8 0
def encC : List Bool := encH ++ toBits 2 2 ++ rowBits [1, 0, 1] 1 14
def encD : List Bool := encC ++ toBits 8 4 ++ toBits 8 8
def wakeB : ByteArray := ⟨#[0, 0, 0, 0, 0, 0, 0, 0, 0, 5, 0, 3, 0, 0, 2, 0, 168, 0, 4, 8]⟩
theorem enc_text : strOfNums (packI (encD ++ List.replicate ((32 - encD.length % 32) % 32) false)) = wakeB := by decide +kernel
theorem encD_length : encD.length = 160 := by decide +kernel
set_option maxHeartbeats 16000000 in
set_option maxRecDepth 100000 in
theorem encode1 (w : World) (ga gb : Nat) (ka : w.heap[ga]? = some (.cells #[.int .i64 1, .int .i64 0, .int .i64 1] 3 (0, 0))) (kb : w.heap[gb]? = some (.cells #[.int .i64 4, .int .i64 8] 3 (0, 0))) : Calls Try.prog 16 #[.agg #[.int .u32 0, .int .u32 0, .int .i64 5, .int .i64 2, .int .i64 0, .slice (some ⟨ga, 0, none⟩) 3 3, .slice (some ⟨gb, 0, none⟩) 2 2]] w fun e w' => e = .returned (.tuple #[.string wakeB, .int .i64 0]) ∧ Below w.heap.size w w' := by
 have la := blk_lt ka
 have lb := blk_lt kb
 have KA := Aside0.mk ((Below.heap_alloc w (.cells #[.int .u32 0, .int .u32 0, .int .i64 5, .int .i64 2, .int .i64 0, .slice (some ⟨ga, 0, none⟩) 3 3, .slice (some ⟨gb, 0, none⟩) 2 2] 63) ga la).trans ka)
 have KB := Aside0.mk ((Below.heap_alloc w (.cells #[.int .u32 0, .int .u32 0, .int .i64 5, .int .i64 2, .int .i64 0, .slice (some ⟨ga, 0, none⟩) 3 3, .slice (some ⟨gb, 0, none⟩) 2 2] 63) gb lb).trans kb)
 have K1 := Aside0.mk (blk_new w (.cells #[.int .u32 0, .int .u32 0, .int .i64 5, .int .i64 2, .int .i64 0, .slice (some ⟨ga, 0, none⟩) 3 3, .slice (some ⟨gb, 0, none⟩) 2 2] 63))
 have HB := Aside0.mk ((Below.refl w.heap.size w).alloc (Nat.le_refl _) (.cells #[.int .u32 0, .int .u32 0, .int .i64 5, .int .i64 2, .int .i64 0, .slice (some ⟨ga, 0, none⟩) 3 3, .slice (some ⟨gb, 0, none⟩) 2 2] 63))
 have hs : w.heap.size < (w.alloc (.cells #[.int .u32 0, .int .u32 0, .int .i64 5, .int .i64 2, .int .i64 0, .slice (some ⟨ga, 0, none⟩) 3 3, .slice (some ⟨gb, 0, none⟩) 2 2] 63)).heap.size := by simp
 clear ka kb
 go_enter Try.func16, Try.ntmps16
 go_upto_region 1 with fail
 generalize w.alloc (.cells #[.int .u32 0, .int .u32 0, .int .i64 5, .int .i64 2, .int .i64 0, .slice (some ⟨ga, 0, none⟩) 3 3, .slice (some ⟨gb, 0, none⟩) 2 2] 63) = w1 at *
 obtain ⟨g1, hg1⟩ : ∃ g, g = w.heap.size := ⟨_, rfl⟩
 rw [← hg1] at K1 hs ⊢
 have hwg1 : w.heap.size ≤ g1 := Nat.le_of_eq hg1.symm
 clear hg1
 have c0 := blk_cell K1.out 0
 have c1 := blk_cell K1.out 1
 have c2 := blk_cell K1.out 2
 have c3 := blk_cell K1.out 3
 have c4 := blk_cell K1.out 4
 have c5 := blk_cell K1.out 5
 have c6 := blk_cell K1.out 6
 simp only [List.getElem?_toArray, List.getElem?_cons_zero, List.getElem?_cons_succ] at c0 c1 c2 c3 c4 c5 c6
 go_wp2_with fail
 refine (good1 w1 ga gb KA.out KB.out).mono ?_
 rintro e w2 ⟨rfl, hb⟩
 replace KA := Aside0.mk ((hb.block ga (blk_lt KA.out)).trans KA.out)
 replace KB := Aside0.mk ((hb.block gb (blk_lt KB.out)).trans KB.out)
 replace K1 := Aside0.mk ((hb.block g1 (blk_lt K1.out)).trans K1.out)
 replace HB := Aside0.mk (HB.out.trans (hb.mono HB.out.size))
 clear hb c0 c1 c2 c3 c4 c5 c6 hs
 go_wp2_with fail
 refine (rwrite_any w2).mono ?_
 rintro e w3 ⟨rfl, hW, hb⟩
 obtain ⟨p, hp⟩ : ∃ p, p = w2.heap.size := ⟨_, rfl⟩
 have HE : Aside0 (ES w w3 g1 ga gb p []) := ⟨⟨by rw [hp]; exact hW, (hb.block g1 (blk_lt K1.out)).trans K1.out, (hb.block ga (blk_lt KA.out)).trans KA.out, (hb.block gb (blk_lt KB.out)).trans KB.out, HB.out.trans (hb.mono HB.out.size), by rw [hp]; exact blk_lt K1.out, by rw [hp]; exact blk_lt KA.out, by rw [hp]; exact blk_lt KB.out, by rw [hp]; exact HB.out.size⟩⟩
 rw [← hp]
 clear hW hb hp KA KB K1 HB
 have c0 := blk_cell HE.out.k1 0
 have c1 := blk_cell HE.out.k1 1
 have c2 := blk_cell HE.out.k1 2
 have c3 := blk_cell HE.out.k1 3
 have c4 := blk_cell HE.out.k1 4
 have c5 := blk_cell HE.out.k1 5
 have c6 := blk_cell HE.out.k1 6
 simp only [List.getElem?_toArray, List.getElem?_cons_zero, List.getElem?_cons_succ] at c0 c1 c2 c3 c4 c5 c6
 go_wp2_with fail
 refine (rput_any w3 p _ 0 32 HE.out.wr (by omega) (by omega) (by decide +kernel)).mono ?_
 rintro e w4 ⟨rfl, hW, hB⟩
 replace HE := Aside0.mk (HE.out.put hW hB)
 clear hW hB c0 c1 c2 c3 c4 c5 c6
 have c0 := blk_cell HE.out.k1 0
 have c1 := blk_cell HE.out.k1 1
 have c2 := blk_cell HE.out.k1 2
 have c3 := blk_cell HE.out.k1 3
 have c4 := blk_cell HE.out.k1 4
 have c5 := blk_cell HE.out.k1 5
 have c6 := blk_cell HE.out.k1 6
 simp only [List.getElem?_toArray, List.getElem?_cons_zero, List.getElem?_cons_succ] at c0 c1 c2 c3 c4 c5 c6
 go_wp2_with fail
 refine (rput_any w4 p _ 0 32 HE.out.wr (by omega) (by omega) (by decide +kernel)).mono ?_
 rintro e w5 ⟨rfl, hW, hB⟩
 replace HE := Aside0.mk (HE.out.put hW hB)
 clear hW hB c0 c1 c2 c3 c4 c5 c6
 have c0 := blk_cell HE.out.k1 0
 have c1 := blk_cell HE.out.k1 1
 have c2 := blk_cell HE.out.k1 2
 have c3 := blk_cell HE.out.k1 3
 have c4 := blk_cell HE.out.k1 4
 have c5 := blk_cell HE.out.k1 5
 have c6 := blk_cell HE.out.k1 6
 simp only [List.getElem?_toArray, List.getElem?_cons_zero, List.getElem?_cons_succ] at c0 c1 c2 c3 c4 c5 c6
 go_wp2_with fail
 refine (rput_any w5 p _ 5 16 HE.out.wr (by omega) (by omega) (by decide +kernel)).mono ?_
 rintro e w6 ⟨rfl, hW, hB⟩
 replace HE := Aside0.mk (HE.out.put hW hB)
 clear hW hB c0 c1 c2 c3 c4 c5 c6
 have c0 := blk_cell HE.out.k1 0
 have c1 := blk_cell HE.out.k1 1
 have c2 := blk_cell HE.out.k1 2
 have c3 := blk_cell HE.out.k1 3
 have c4 := blk_cell HE.out.k1 4
 have c5 := blk_cell HE.out.k1 5
 have c6 := blk_cell HE.out.k1 6
 simp only [List.getElem?_toArray, List.getElem?_cons_zero, List.getElem?_cons_succ] at c0 c1 c2 c3 c4 c5 c6
 go_wp2_with fail
 refine (rput_any w6 p _ 3 16 HE.out.wr (by omega) (by omega) (by decide +kernel)).mono ?_
 rintro e w7 ⟨rfl, hW, hB⟩
 replace HE := Aside0.mk (HE.out.put hW hB)
 clear hW hB c0 c1 c2 c3 c4 c5 c6
 have c0 := blk_cell HE.out.k1 0
 have c1 := blk_cell HE.out.k1 1
 have c2 := blk_cell HE.out.k1 2
 have c3 := blk_cell HE.out.k1 3
 have c4 := blk_cell HE.out.k1 4
 have c5 := blk_cell HE.out.k1 5
 have c6 := blk_cell HE.out.k1 6
 simp only [List.getElem?_toArray, List.getElem?_cons_zero, List.getElem?_cons_succ] at c0 c1 c2 c3 c4 c5 c6
 go_wp2_with fail
 refine (rput_any w7 p _ 2 24 HE.out.wr (by omega) (by omega) (by decide +kernel)).mono ?_
 rintro e w8 ⟨rfl, hW, hB⟩
 replace HE := Aside0.mk (HE.out.put hW hB)
 clear hW hB c0 c1 c2 c3 c4 c5 c6
 have c0 := blk_cell HE.out.k1 0
 have c1 := blk_cell HE.out.k1 1
 have c2 := blk_cell HE.out.k1 2
 have c3 := blk_cell HE.out.k1 3
 have c4 := blk_cell HE.out.k1 4
 have c5 := blk_cell HE.out.k1 5
 have c6 := blk_cell HE.out.k1 6
 simp only [List.getElem?_toArray, List.getElem?_cons_zero, List.getElem?_cons_succ] at c0 c1 c2 c3 c4 c5 c6
 go_wp2_with fail
 refine (rput_any w8 p _ 0 8 HE.out.wr (by omega) (by omega) (by decide +kernel)).mono ?_
 rintro e w9 ⟨rfl, hW, hB⟩
 replace HE := Aside0.mk (HE.out.put hW hB)
 clear hW hB c0 c1 c2 c3 c4 c5 c6
 have c0 := blk_cell HE.out.k1 0
 have c1 := blk_cell HE.out.k1 1
 have c2 := blk_cell HE.out.k1 2
 have c3 := blk_cell HE.out.k1 3
 have c4 := blk_cell HE.out.k1 4
 have c5 := blk_cell HE.out.k1 5
 have c6 := blk_cell HE.out.k1 6
 simp only [List.getElem?_toArray, List.getElem?_cons_zero, List.getElem?_cons_succ] at c0 c1 c2 c3 c4 c5 c6
 replace HE := Aside0.mk (show ES w w9 g1 ga gb p encH from by simpa [encH] using HE.out)
 go_wp2_with fail
 clear c0 c1 c2 c3 c4 c5 c6
 go_loopw [6, 7, 8, 9, 10] (fun v6 _ _ _ _ wr => (v6 = .int .i64 0 ∧ Aside0 (ES w wr g1 ga gb p encH)) ∨ (v6 = .int .i64 3 ∧ Aside0 (ES w wr g1 ga gb p encC))) (fun v _ _ _ _ _ => 3 - (intOf v).toNat)
 case atStart => exact .inl ⟨rfl, HE⟩
 case round =>
  clear HE
  rcases hrel with ⟨rfl, HE⟩ | ⟨rfl, HE⟩
  ·have a0 := blk_cell HE.out.ka 0
   have a1 := blk_cell HE.out.ka 1
   have a2 := blk_cell HE.out.ka 2
   simp only [List.getElem?_toArray, List.getElem?_cons_zero, List.getElem?_cons_succ] at a0 a1 a2
   go_wp2_with fail
   refine (alike1 _ ga a0 a1).mono ?_
   rintro e wA ⟨rfl, hd⟩
   replace HE := Aside0.mk (HE.out.drawn hd)
   clear hd a0 a1 a2
   have a0 := blk_cell HE.out.ka 0
   have a1 := blk_cell HE.out.ka 1
   have a2 := blk_cell HE.out.ka 2
   simp only [List.getElem?_toArray, List.getElem?_cons_zero, List.getElem?_cons_succ] at a0 a1 a2
   go_wp2_with fail
   go_loop [9, 10] (fun v9 v10 => v9 = .bool false ∧ (v10 = .int .i64 0 ∨ v10 = .int .i64 1 ∨ v10 = .int .i64 2 ∨ v10 = .int .i64 3)) (fun _ v => 3 - (intOf v).toNat)
   case atStart => exact ⟨rfl, .inl rfl⟩
   case round =>
    obtain ⟨rfl, rfl | rfl | rfl | rfl⟩ := hrel
    ·go_wp2_with fail
     exact ⟨⟨rfl, .inr (.inl rfl)⟩, by simp [intOf]⟩
    ·go_wp2_with fail
     exact ⟨⟨rfl, .inr (.inr (.inl rfl))⟩, by simp [intOf]⟩
    ·go_wp2_with fail
     exact ⟨⟨rfl, .inr (.inr (.inr rfl))⟩, by simp [intOf]⟩
    ·go_wp2_with fail
     refine (rput_any _ p encH 2 2 HE.out.wr (by omega) (by omega) (by decide +kernel)).mono ?_
     rintro e wB ⟨rfl, hW, hB⟩
     replace HE := Aside0.mk (HE.out.put hW hB)
     clear hW hB a0 a1 a2
     have a0 := blk_cell HE.out.ka 0
     have a1 := blk_cell HE.out.ka 1
     have a2 := blk_cell HE.out.ka 2
     simp only [List.getElem?_toArray, List.getElem?_cons_zero, List.getElem?_cons_succ] at a0 a1 a2
     go_wp2_with fail
     refine (rrow_any wB p ga 0 3 (encH ++ toBits 2 2) [1, 0, 1] 14 1 HE.out.wr HE.out.la (by
      intro i x hx
      rcases (show i = 0 ∨ i = 1 ∨ i = 2 ∨ 3 ≤ i by omega) with rfl | rfl | rfl | h
      ·simp at hx; subst hx; exact ⟨a0, by omega, by omega⟩
      ·simp at hx; subst hx; exact ⟨a1, by omega, by omega⟩
      ·simp at hx; subst hx; exact ⟨a2, by omega, by omega⟩
      ·rw [List.getElem?_eq_none (by simpa using h)] at hx; cases hx) (by omega) (by omega) (by decide +kernel) (by decide)).mono ?_
     rintro e wC ⟨rfl, hW, hB⟩
     replace HE := Aside0.mk (show ES w wC g1 ga gb p encC from HE.out.put hW hB)
     clear hW hB a0 a1 a2
     go_wp2_with fail
     exact ⟨.inr ⟨rfl, HE⟩, by simp [intOf]; omega⟩
  ·go_wp2_with fail
   go_loopw [11, 12] (fun v11 v12 wr => (v12 = .int .i64 0 ∧ v11 = .int .i64 0 ∧ Aside0 (ES w wr g1 ga gb p encC)) ∨ (v12 = .int .i64 1 ∧ v11 = .int .i64 1 ∧ Aside0 (ES w wr g1 ga gb p (encC ++ toBits 8 4))) ∨ (v12 = .int .i64 2 ∧ v11 = .int .i64 1 ∧ Aside0 (ES w wr g1 ga gb p (encC ++ toBits 8 4))) ∨ (v12 = .int .i64 3 ∧ v11 = .int .i64 2 ∧ Aside0 (ES w wr g1 ga gb p encD))) (fun _ v _ => 3 - (intOf v).toNat)
   case atStart => exact .inl ⟨rfl, rfl, HE⟩
   case round =>
    clear HE
    rcases hrel with ⟨rfl, rfl, HE⟩ | ⟨rfl, rfl, HE⟩ | ⟨rfl, rfl, HE⟩ | ⟨rfl, rfl, HE⟩
    ·have a0 := blk_cell HE.out.ka 0
     simp only [List.getElem?_toArray, List.getElem?_cons_zero, List.getElem?_cons_succ] at a0
     go_wp2_with fail
     replace HE : Aside0 (ES w wr.drew g1 ga gb p encC) := ⟨HE.out.drawn ⟨1, rfl⟩⟩
     have c6 := blk_cell HE.out.k1 6
     have b0 := blk_cell HE.out.kb 0
     have a0 := blk_cell HE.out.ka 0
     simp only [List.getElem?_toArray, List.getElem?_cons_zero, List.getElem?_cons_succ] at c6 b0 a0
     have CP : Aside0 (Calls Try.prog 30 #[.pointer (some ⟨p, 0, none⟩), .int .u32 (IntKind.u32.wrap 4), .int .i64 (wrap64 8)] wr.drew fun e w' => e = .returned (.tuple #[]) ∧ WrIs w' p 123 5 (encC ++ toBits 8 4) ∧ Below p wr.drew w') := ⟨by
      rw [show wrap64 8 = ((8 : Nat) : Int) by unfold wrap64; omega, show IntKind.u32.wrap 4 = ((4 : Nat) : Int) by rw [IntKind.wrap_u32]; omega]
      exact rput_any _ p _ 4 8 HE.out.wr (by omega) (by omega) (by decide +kernel)⟩
     refine start_ (n := 13) (S := fun w' => w'.cell? ⟨g1, 6, none⟩ = some (.slice (some ⟨gb, 0, none⟩) 2 2) ∧ w'.cell? ⟨gb, 0, none⟩ = some (.int .i64 4) ∧ w'.cell? ⟨ga, 0, none⟩ = some (.int .i64 1)) (ds := [12]) #[false, false, false, false, false, false, false, false, false, false, false, false, false] (by kernel_rfl) rfl rfl ⟨c6, b0, a0⟩ (fun hHeld => ?_)
     refine pure_ (i := 0) (N := some 139) (v := ?_) (a' := ?_) #[true, false, false, false, false, false, false, false, false, false, false, false, false] rfl rfl (by kernel_rfl) (fun _ _ _ h => h) (Or.inl ⟨by rfl, ?_⟩) ?_ ?_
     rotate_left
     ·intro w'
      go_simp
      with_reducible rfl
     rotate_left
     ·simp only [Act.put, List.setIfInBounds_toArray, List.set_cons_zero, List.set_cons_succ, i64_w, i32_w]
      rfl
     refine pure_ (i := 1) (N := some 140) (v := ?_) (a' := ?_) #[true, true, false, false, false, false, false, false, false, false, false, false, false] rfl rfl (by kernel_rfl) (fun _ _ _ h => h) (Or.inl ⟨by rfl, ?_⟩) ?_ ?_
     rotate_left
     ·intro w'
      go_simp
      with_reducible rfl
     rotate_left
     ·simp only [Act.put, List.setIfInBounds_toArray, List.set_cons_zero, List.set_cons_succ, i64_w, i32_w]
      rfl
     refine pure_ (i := 3) (N := some 142) (v := ?_) (a' := ?_) #[true, true, false, true, false, false, false, false, false, false, false, false, false] rfl rfl (by kernel_rfl) (fun _ _ _ h => h) (Or.inl ⟨by rfl, ?_⟩) ?_ ?_
     rotate_left
     ·intro w'
      go_simp
      with_reducible rfl
     rotate_left
     ·simp only [Act.put, List.setIfInBounds_toArray, List.set_cons_zero, List.set_cons_succ, i64_w, i32_w]
      rfl
     refine pure_ (i := 7) (N := some 146) (v := ?_) (a' := ?_) #[true, true, false, true, false, false, false, true, false, false, false, false, false] rfl rfl (by kernel_rfl) (fun _ _ _ h => h) (Or.inl ⟨by rfl, ?_⟩) ?_ ?_
     rotate_left
     ·intro w'
      go_simp
      with_reducible rfl
     rotate_left
     ·simp only [Act.put, List.setIfInBounds_toArray, List.set_cons_zero, List.set_cons_succ, i64_w, i32_w]
      rfl
     refine pure_ (i := 8) (N := some 147) (v := ?_) (a' := ?_) #[true, true, false, true, false, false, false, true, true, false, false, false, false] rfl rfl (by kernel_rfl) (fun _ _ _ h => h) (Or.inl ⟨by rfl, ?_⟩) ?_ ?_
     rotate_left
     ·intro w'
      go_simp
      with_reducible rfl
     rotate_left
     ·simp only [Act.put, List.setIfInBounds_toArray, List.set_cons_zero, List.set_cons_succ, i64_w, i32_w]
      rfl
     refine pure_ (i := 9) (N := some 148) (v := ?_) (a' := ?_) #[true, true, false, true, false, false, false, true, true, true, false, false, false] rfl rfl (by kernel_rfl) (fun _ _ _ h => h) (Or.inl ⟨by rfl, ?_⟩) ?_ ?_
     rotate_left
     ·intro w'
      go_simp
      with_reducible rfl
     rotate_left
     ·simp only [Act.put, List.setIfInBounds_toArray, List.set_cons_zero, List.set_cons_succ, i64_w, i32_w]
      rfl
     refine take_ (i := 2) (N := some 141) (v := ?_) (a' := ?_) #[true, true, true, true, false, false, false, true, true, true, false, false, false] rfl rfl (by kernel_rfl) (fun _ _ _ h => h) (Or.inl ⟨by rfl, ?_⟩) hHeld ?_ ?_
     rotate_left
     ·rintro w' ⟨s0, s1, s2⟩
      go_simp
      with_reducible rfl
     rotate_left
     ·simp only [Act.put, List.setIfInBounds_toArray, List.set_cons_zero, List.set_cons_succ, i64_w, i32_w]
      rfl
     refine pure_ (i := 4) (N := some 143) (v := ?_) (a' := ?_) #[true, true, true, true, true, false, false, true, true, true, false, false, false] rfl rfl (by kernel_rfl) (fun _ _ _ h => h) (Or.inl ⟨by rfl, ?_⟩) ?_ ?_
     rotate_left
     ·intro w'
      go_simp
      with_reducible rfl
     rotate_left
     ·simp only [Act.put, List.setIfInBounds_toArray, List.set_cons_zero, List.set_cons_succ, i64_w, i32_w]
      rfl
     refine take_ (i := 5) (N := some 144) (v := ?_) (a' := ?_) #[true, true, true, true, true, true, false, true, true, true, false, false, false] rfl rfl (by kernel_rfl) (fun _ _ _ h => h) (Or.inl ⟨by rfl, ?_⟩) hHeld ?_ ?_
     rotate_left
     ·rintro w' ⟨s0, s1, s2⟩
      go_simp
      with_reducible rfl
     rotate_left
     ·simp only [Act.put, List.setIfInBounds_toArray, List.set_cons_zero, List.set_cons_succ, i64_w, i32_w]
      rfl
     refine pure_ (i := 6) (N := some 145) (v := ?_) (a' := ?_) #[true, true, true, true, true, true, true, true, true, true, false, false, false] rfl rfl (by kernel_rfl) (fun _ _ _ h => h) (Or.inl ⟨by rfl, ?_⟩) ?_ ?_
     rotate_left
     ·intro w'
      go_simp
      with_reducible rfl
     rotate_left
     ·simp only [Act.put, List.setIfInBounds_toArray, List.set_cons_zero, List.set_cons_succ, i64_w, i32_w]
      rfl
     refine take_ (i := 10) (N := some 149) (v := ?_) (a' := ?_) #[true, true, true, true, true, true, true, true, true, true, true, false, false] rfl rfl (by kernel_rfl) (fun _ _ _ h => h) (Or.inl ⟨by rfl, ?_⟩) hHeld ?_ ?_
     rotate_left
     ·rintro w' ⟨s0, s1, s2⟩
      go_simp
      with_reducible rfl
     rotate_left
     ·simp only [Act.put, List.setIfInBounds_toArray, List.set_cons_zero, List.set_cons_succ, i64_w, i32_w]
      rfl
     refine pure_ (i := 11) (N := some 150) (v := ?_) (a' := ?_) #[true, true, true, true, true, true, true, true, true, true, true, true, false] rfl rfl (by kernel_rfl) (fun _ _ _ h => h) (Or.inl ⟨by rfl, ?_⟩) ?_ ?_
     rotate_left
     ·intro w'
      go_simp
      with_reducible rfl
     rotate_left
     ·simp only [Act.put, List.setIfInBounds_toArray, List.set_cons_zero, List.set_cons_succ, i64_w, i32_w]
      rfl
     refine last_ (i := 12) (N := some 151) #[true, true, true, true, true, true, true, true, true, true, true, true, true] rfl rfl (by kernel_rfl) (by decide) (fun K hK => ?_)
     refine goes_ Try.func30 (by kernel_rfl) rfl #[.pointer (some ⟨p, 0, none⟩), .int .u32 (IntKind.u32.wrap 4), .int .i64 (wrap64 8)] (by rfl) rfl rfl (by simp only [List.map_toArray, List.map_cons, List.map_nil]; rfl) ?_
     with_reducible refine (CP.out).mono ?_
     rintro e wB ⟨rfl, hW, hB⟩
     refine ⟨_, rfl, ?_⟩
     have HE2 := Aside0.mk (HE.out.put hW hB)
     clear hW hB
     refine hK.out _ _ ?_
     clear hK K
     refine norm_ (a' := ?_) ?_ ?_
     rotate_left
     ·show Act.put _ (some 151) _ = _
      simp only [Act.put, List.setIfInBounds_toArray, List.set_cons_zero, List.set_cons_succ, i64_w, i32_w]
      rfl
     refine done_ (by kernel_rfl) ?_
     clear c6 b0 a0 CP
     try clear hHeld
     have HE := HE2
     clear HE2
     go_wp2_with fail
     exact ⟨.inr (.inl ⟨rfl, rfl, HE⟩), by simp [intOf]⟩
    ·have a1 := blk_cell HE.out.ka 1
     simp only [List.getElem?_toArray, List.getElem?_cons_zero, List.getElem?_cons_succ] at a1
     go_wp2_with fail
     exact ⟨.inr (.inr (.inl ⟨rfl, rfl, HE⟩)), by simp [intOf]⟩
    ·have a0 := blk_cell HE.out.ka 2
     simp only [List.getElem?_toArray, List.getElem?_cons_zero, List.getElem?_cons_succ] at a0
     go_wp2_with fail
     replace HE : Aside0 (ES w wr.drew g1 ga gb p (encC ++ toBits 8 4)) := ⟨HE.out.drawn ⟨1, rfl⟩⟩
     have c6 := blk_cell HE.out.k1 6
     have b0 := blk_cell HE.out.kb 1
     have a0 := blk_cell HE.out.ka 2
     simp only [List.getElem?_toArray, List.getElem?_cons_zero, List.getElem?_cons_succ] at c6 b0 a0
     have CP : Aside0 (Calls Try.prog 30 #[.pointer (some ⟨p, 0, none⟩), .int .u32 (IntKind.u32.wrap 8), .int .i64 (wrap64 8)] wr.drew fun e w' => e = .returned (.tuple #[]) ∧ WrIs w' p 123 5 ((encC ++ toBits 8 4) ++ toBits 8 8) ∧ Below p wr.drew w') := ⟨by
      rw [show wrap64 8 = ((8 : Nat) : Int) by unfold wrap64; omega, show IntKind.u32.wrap 8 = ((8 : Nat) : Int) by rw [IntKind.wrap_u32]; omega]
      exact rput_any _ p _ 8 8 HE.out.wr (by omega) (by omega) (by decide +kernel)⟩
     refine start_ (n := 13) (S := fun w' => w'.cell? ⟨g1, 6, none⟩ = some (.slice (some ⟨gb, 0, none⟩) 2 2) ∧ w'.cell? ⟨gb, 1, none⟩ = some (.int .i64 8) ∧ w'.cell? ⟨ga, 2, none⟩ = some (.int .i64 1)) (ds := [12]) #[false, false, false, false, false, false, false, false, false, false, false, false, false] (by kernel_rfl) rfl rfl ⟨c6, b0, a0⟩ (fun hHeld => ?_)
     refine pure_ (i := 0) (N := some 139) (v := ?_) (a' := ?_) #[true, false, false, false, false, false, false, false, false, false, false, false, false] rfl rfl (by kernel_rfl) (fun _ _ _ h => h) (Or.inl ⟨by rfl, ?_⟩) ?_ ?_
     rotate_left
     ·intro w'
      go_simp
      with_reducible rfl
     rotate_left
     ·simp only [Act.put, List.setIfInBounds_toArray, List.set_cons_zero, List.set_cons_succ, i64_w, i32_w]
      rfl
     refine pure_ (i := 1) (N := some 140) (v := ?_) (a' := ?_) #[true, true, false, false, false, false, false, false, false, false, false, false, false] rfl rfl (by kernel_rfl) (fun _ _ _ h => h) (Or.inl ⟨by rfl, ?_⟩) ?_ ?_
     rotate_left
     ·intro w'
      go_simp
      with_reducible rfl
     rotate_left
     ·simp only [Act.put, List.setIfInBounds_toArray, List.set_cons_zero, List.set_cons_succ, i64_w, i32_w]
      rfl
     refine pure_ (i := 3) (N := some 142) (v := ?_) (a' := ?_) #[true, true, false, true, false, false, false, false, false, false, false, false, false] rfl rfl (by kernel_rfl) (fun _ _ _ h => h) (Or.inl ⟨by rfl, ?_⟩) ?_ ?_
     rotate_left
     ·intro w'
      go_simp
      with_reducible rfl
     rotate_left
     ·simp only [Act.put, List.setIfInBounds_toArray, List.set_cons_zero, List.set_cons_succ, i64_w, i32_w]
      rfl
     refine pure_ (i := 7) (N := some 146) (v := ?_) (a' := ?_) #[true, true, false, true, false, false, false, true, false, false, false, false, false] rfl rfl (by kernel_rfl) (fun _ _ _ h => h) (Or.inl ⟨by rfl, ?_⟩) ?_ ?_
     rotate_left
     ·intro w'
      go_simp
      with_reducible rfl
     rotate_left
     ·simp only [Act.put, List.setIfInBounds_toArray, List.set_cons_zero, List.set_cons_succ, i64_w, i32_w]
      rfl
     refine pure_ (i := 8) (N := some 147) (v := ?_) (a' := ?_) #[true, true, false, true, false, false, false, true, true, false, false, false, false] rfl rfl (by kernel_rfl) (fun _ _ _ h => h) (Or.inl ⟨by rfl, ?_⟩) ?_ ?_
     rotate_left
     ·intro w'
      go_simp
      with_reducible rfl
     rotate_left
     ·simp only [Act.put, List.setIfInBounds_toArray, List.set_cons_zero, List.set_cons_succ, i64_w, i32_w]
      rfl
     refine pure_ (i := 9) (N := some 148) (v := ?_) (a' := ?_) #[true, true, false, true, false, false, false, true, true, true, false, false, false] rfl rfl (by kernel_rfl) (fun _ _ _ h => h) (Or.inl ⟨by rfl, ?_⟩) ?_ ?_
     rotate_left
     ·intro w'
      go_simp
      with_reducible rfl
     rotate_left
     ·simp only [Act.put, List.setIfInBounds_toArray, List.set_cons_zero, List.set_cons_succ, i64_w, i32_w]
      rfl
     refine take_ (i := 2) (N := some 141) (v := ?_) (a' := ?_) #[true, true, true, true, false, false, false, true, true, true, false, false, false] rfl rfl (by kernel_rfl) (fun _ _ _ h => h) (Or.inl ⟨by rfl, ?_⟩) hHeld ?_ ?_
     rotate_left
     ·rintro w' ⟨s0, s1, s2⟩
      go_simp
      with_reducible rfl
     rotate_left
     ·simp only [Act.put, List.setIfInBounds_toArray, List.set_cons_zero, List.set_cons_succ, i64_w, i32_w]
      rfl
     refine pure_ (i := 4) (N := some 143) (v := ?_) (a' := ?_) #[true, true, true, true, true, false, false, true, true, true, false, false, false] rfl rfl (by kernel_rfl) (fun _ _ _ h => h) (Or.inl ⟨by rfl, ?_⟩) ?_ ?_
     rotate_left
     ·intro w'
      go_simp
      with_reducible rfl
     rotate_left
     ·simp only [Act.put, List.setIfInBounds_toArray, List.set_cons_zero, List.set_cons_succ, i64_w, i32_w]
      rfl
     refine take_ (i := 5) (N := some 144) (v := ?_) (a' := ?_) #[true, true, true, true, true, true, false, true, true, true, false, false, false] rfl rfl (by kernel_rfl) (fun _ _ _ h => h) (Or.inl ⟨by rfl, ?_⟩) hHeld ?_ ?_
     rotate_left
     ·rintro w' ⟨s0, s1, s2⟩
      go_simp
      with_reducible rfl
     rotate_left
     ·simp only [Act.put, List.setIfInBounds_toArray, List.set_cons_zero, List.set_cons_succ, i64_w, i32_w]
      rfl
     refine pure_ (i := 6) (N := some 145) (v := ?_) (a' := ?_) #[true, true, true, true, true, true, true, true, true, true, false, false, false] rfl rfl (by kernel_rfl) (fun _ _ _ h => h) (Or.inl ⟨by rfl, ?_⟩) ?_ ?_
     rotate_left
     ·intro w'
      go_simp
      with_reducible rfl
     rotate_left
     ·simp only [Act.put, List.setIfInBounds_toArray, List.set_cons_zero, List.set_cons_succ, i64_w, i32_w]
      rfl
     refine take_ (i := 10) (N := some 149) (v := ?_) (a' := ?_) #[true, true, true, true, true, true, true, true, true, true, true, false, false] rfl rfl (by kernel_rfl) (fun _ _ _ h => h) (Or.inl ⟨by rfl, ?_⟩) hHeld ?_ ?_
     rotate_left
     ·rintro w' ⟨s0, s1, s2⟩
      go_simp
      with_reducible rfl
     rotate_left
     ·simp only [Act.put, List.setIfInBounds_toArray, List.set_cons_zero, List.set_cons_succ, i64_w, i32_w]
      rfl
     refine pure_ (i := 11) (N := some 150) (v := ?_) (a' := ?_) #[true, true, true, true, true, true, true, true, true, true, true, true, false] rfl rfl (by kernel_rfl) (fun _ _ _ h => h) (Or.inl ⟨by rfl, ?_⟩) ?_ ?_
     rotate_left
     ·intro w'
      go_simp
      with_reducible rfl
     rotate_left
     ·simp only [Act.put, List.setIfInBounds_toArray, List.set_cons_zero, List.set_cons_succ, i64_w, i32_w]
      rfl
     refine last_ (i := 12) (N := some 151) #[true, true, true, true, true, true, true, true, true, true, true, true, true] rfl rfl (by kernel_rfl) (by decide) (fun K hK => ?_)
     refine goes_ Try.func30 (by kernel_rfl) rfl #[.pointer (some ⟨p, 0, none⟩), .int .u32 (IntKind.u32.wrap 8), .int .i64 (wrap64 8)] (by rfl) rfl rfl (by simp only [List.map_toArray, List.map_cons, List.map_nil]; rfl) ?_
     with_reducible refine (CP.out).mono ?_
     rintro e wB ⟨rfl, hW, hB⟩
     refine ⟨_, rfl, ?_⟩
     have HE2 := Aside0.mk (HE.out.put hW hB)
     clear hW hB
     refine hK.out _ _ ?_
     clear hK K
     refine norm_ (a' := ?_) ?_ ?_
     rotate_left
     ·show Act.put _ (some 151) _ = _
      simp only [Act.put, List.setIfInBounds_toArray, List.set_cons_zero, List.set_cons_succ, i64_w, i32_w]
      rfl
     refine done_ (by kernel_rfl) ?_
     clear c6 b0 a0 CP
     try clear hHeld
     have HE := HE2
     clear HE2
     go_wp2_with fail
     exact ⟨.inr (.inr (.inr ⟨rfl, rfl, HE⟩)), by simp [intOf]⟩
    ·go_wp2_with fail
     refine (ralign_any _ p encD HE.out.wr (by rw [encD_length]; omega)).mono ?_
     rintro e wA ⟨rfl, hW, hB⟩
     replace HE := Aside0.mk (HE.out.put hW hB)
     clear hW hB
     go_wp2_with fail
     refine (rtext_any _ p _ HE.out.wr).mono ?_
     rintro e wB ⟨rfl, hw⟩
     obtain rfl := hw.symm
     rw [enc_text]
     go_wp2_with fail
     go_ret2
     exact ⟨rfl, HE.out.bel⟩
end Go.Proofs.Ytgakmnholegbgaa.B
end
section
namespace Go.Proofs.Ytgakmnholegbgaa.B
open Go.RowKit Go.Proofs.YtgakmnholegbgaaW.PrintWords Go.Proofs.YtgakmnholegbgaaW.PrintLast Go.Proofs.YtgakmnholegbgaaW.PrintMore
set_option linter.unusedVariables false
set_option linter.unusedSimpArgs false
def wakePF : P3 := (15, 205, wakeB)
def wakeT : ByteArray := ⟨#[143, 205, 0, 5, 0, 0, 0, 0, 0, 0, 0, 0, 0, 5, 0, 3, 0, 0, 2, 0, 168, 0, 4, 8]⟩
theorem wakeF_join : joinP [wakePF] = (wakeT, 0) := by decide +kernel
theorem wakeF_split : splitP wakeT = ([wakePF], 0) := (split_join [wakePF] _ wakeF_join).1
theorem wakeF_stats : statsR wakeB 128 3 = .ok ([1, 0, 1], 144) := by
 have h : chunkP wakeB 128 3 = ([1, 0, 1], 0) := by decide +kernel
 rw [statsR_go (by decide) (by rw [h]), h]
 show (statsR wakeB 144 0).map _ = _
 rw [statsR_end]
 rfl
theorem wakeF_twcc : twccP wakeB = (⟨0, 0, 5, 2, 0, [1, 0, 1], [4, 8]⟩, 0) := by
 have hd : deltasR wakeB 144 [1, 0, 1] = some ([4, 8], 160) := by decide +kernel
 have hn : 3 = rdBits wakeB 80 16 := by decide +kernel
 rw [tw_ok (s := wakeB) (n := 3) (a := 144) (b := 160) (l := [1, 0, 1]) (d := [4, 8]) (by decide +kernel) (by decide +kernel) (by decide +kernel) hn (by decide) (by decide) wakeF_stats hd (by decide +kernel)]
 have e1 : rdBits wakeB 0 32 = 0 := by decide +kernel
 have e2 : rdBits wakeB 32 32 = 0 := by decide +kernel
 have e3 : rdBits wakeB 64 16 = 5 := by decide +kernel
 have e4 : signedP (rdBits wakeB 96 24) 24 = 2 := by decide +kernel
 have e5 : rdBits wakeB 120 8 = 0 := by decide +kernel
 rw [e1, e2, e3, e4, e5]
 rfl
def wakeR : List R5 := [(5, true, 129000, false, false), (6, false, 0, false, false), (7, true, 131000, false, false)]
theorem wakeF_reps : reps2 5 (baseP 128000 2) [1, 0, 1] [4, 8] 3 = wakeR := by decide +kernel
theorem wakeF_feed : feedP wakeT 128000 = ((wakeR, []), 0) := by
 have ho : fdOne 128000 wakePF = .ok (wakeR, [], 1) := by
  rw [fd_one2 ⟨rfl, rfl⟩ (by show (twccP wakeB).2 = 0; rw [wakeF_twcc])]
  show Except.ok (reps2 (twccP wakeB).1.first (baseP 128000 (twccP wakeB).1.base) (twccP wakeB).1.status (twccP wakeB).1.deltas (twccP wakeB).1.status.length, [], 1) = _
  rw [wakeF_twcc]
  show Except.ok (reps2 5 (baseP 128000 2) [1, 0, 1] [4, 8] 3, [], 1) = _
  rw [wakeF_reps]
 have ha : fdAll 128000 [wakePF] = .ok (wakeR, [], 1) := by
  rw [fdAll, ho, fdAll]
  rfl
 rw [feedP_ok (by rw [wakeF_split]) (by rw [wakeF_split]; exact ha), if_neg (by decide), if_neg (by decide)]
set_option maxHeartbeats 8000000 in
set_option maxRecDepth 100000 in
theorem wakesF_any (w : World) : Calls Try.prog 7 #[] w fun e w' => e = .returned (.bool true) ∧ Below w.heap.size w w' := by
 have KA := Aside0.mk (gb_blk (World.grownBy_alloc (w.alloc (.cells #[.int .i64 1, .int .i64 0, .int .i64 1] 3)) (.cells #[.int .i64 4, .int .i64 8] 3) none) (blk_new w (.cells #[.int .i64 1, .int .i64 0, .int .i64 1] 3)) (fun k hk => by cases hk))
 have KB0 := blk_new (w.alloc (.cells #[.int .i64 1, .int .i64 0, .int .i64 1] 3)) (.cells #[.int .i64 4, .int .i64 8] 3)
 rw [show (w.alloc (.cells #[.int .i64 1, .int .i64 0, .int .i64 1] 3)).heap.size = w.heap.size + 1 by simp] at KB0
 have KB := Aside0.mk KB0
 have HB := Aside0.mk (((Below.refl w.heap.size w).alloc (Nat.le_refl _) (.cells #[.int .i64 1, .int .i64 0, .int .i64 1] 3)).alloc (by simp) (.cells #[.int .i64 4, .int .i64 8] 3))
 clear KB0
 go_enter Try.func7, Try.ntmps7
 go_wp2_with fail
 refine (encode1 _ w.heap.size (w.heap.size + 1) KA.out KB.out).mono ?_
 rintro e w2 ⟨rfl, hb⟩
 replace HB := Aside0.mk (HB.out.trans (hb.mono HB.out.size))
 clear hb KA KB
 have HN := Aside0.mk (new_news w2 [.int .i64 15, .int .i64 205, .string wakeB] 56)
 have hP : PartsAt (w2.alloc (.cells #[.int .i64 15, .int .i64 205, .string wakeB] 56)) (some ⟨w2.heap.size, 0, none⟩) [wakePF] := by
  intro i x hi
  have hi0 : i = 0 := by
   rcases Nat.eq_zero_or_pos i with h | h
   ·exact h
   ·rw [List.getElem?_eq_none (by simp only [List.length_cons, List.length_nil]; omega)] at hi
    cases hi
  subst hi0
  have hx : wakePF = x := by simpa using hi
  subst hx
  refine ⟨_, rfl, HN.out 0 _ rfl, ?_, ?_⟩
  ·have := HN.out 1 _ rfl; exact this
  ·have := HN.out 2 _ rfl; exact this
 have CJ := Aside0.mk (rjoin_any (some ⟨w2.heap.size, 0, none⟩) 1 [wakePF] _ (by decide) hP (by decide +kernel))
 rw [wakeF_join] at CJ
 clear hP HN
 go_wp2_with fail
 refine CJ.out.mono ?_
 rintro e w3 ⟨rfl, hb⟩
 replace HB := Aside0.mk ((HB.out.alloc HB.out.size _).trans (hb.mono (by have := HB.out.size; simp; omega)))
 clear hb CJ
 have CR := Aside0.mk (read_any_F wakeT 128000 w3 (by decide +kernel) (by unfold I64; omega))
 unfold FeedPost at CR
 rw [wakeF_feed] at CR
 go_wp2_with fail
 refine CR.out.mono ?_
 rintro e w4 ⟨vR, vA, rfl, hR, hA, hb⟩
 obtain ⟨g, off, c, rfl, _, _, _, hx⟩ := hR.some_ (by decide)
 obtain ⟨AA, ca, rfl, -, -⟩ := hA.form
 have HBF := Aside0.mk (HB.out.trans (hb.mono HB.out.size))
 have hgl := (hR.lt (k := g) rfl).1
 have u0 := hx 2 (.int .i64 129000) rfl
 have u1 := hx 6 (.bool false) rfl
 have u2 := hx 12 (.int .i64 131000) rfl
 have u3 := hx 10 (.int .i64 7) rfl
 clear hb hR hA hx CR
 simp only [List.length_cons, List.length_nil, Nat.zero_add, show wakeR.length = 3 from rfl]
 go_wp2_with fail
 go_ret
 exact ⟨rfl, HBF.out.alloc HBF.out.size _⟩
end Go.Proofs.Ytgakmnholegbgaa.B
end
section
namespace Go.Proofs.Ytgakmnholegbgaa.B
open Go.RowKit Go.Proofs.YtgakmnholegbgaaW.PrintWords Go.Proofs.YtgakmnholegbgaaW.PrintLast Go.Proofs.YtgakmnholegbgaaW.PrintMore
set_option linter.unusedVariables false
set_option linter.unusedSimpArgs false
theorem fdAll_append (near : Int) (l m : List P3) : fdAll near (l ++ m) = match fdAll near l with
  | .error e => .error e
  | .ok a => match fdAll near m with
   | .error e => .error e
   | .ok b => .ok (a.add b) := by
 induction l with
 | nil =>
  rw [List.nil_append, fdAll]
  dsimp only
  cases fdAll near m with
  | error e => rfl
  | ok b =>
   dsimp only
   rw [Fd.nil_add]
 | cons x l ih =>
  rw [List.cons_append, fdAll, fdAll, ih]
  cases fdOne near x with
  | error e => rfl
  | ok a =>
   dsimp only
   cases fdAll near l with
   | error e => rfl
   | ok b =>
    dsimp only
    cases fdAll near m with
    | error e => rfl
    | ok c =>
     dsimp only
     rw [Fd.add_assoc]
theorem feedP_good {s : ByteArray} {near : Int} {r : List R5} {a : List Int} (h : feedP s near = ((r, a), 0)) : ∃ l k, splitP s = (l, 0) ∧ fdAll (nearF near) l = .ok (r, a, k) ∧ k ≠ 0 := by
 by_cases h1 : (splitP s).2 = 0
 ·cases hf : fdAll (nearF near) (splitP s).1 with
  | error e =>
   rw [feedP_bad h1 hf] at h
   injection h with h2 h3
   exfalso
   have key : ∀ l : List P3, fdAll (nearF near) l = .error e → e ≠ 0 := by
    intro l
    induction l with
    | nil => intro h; rw [fdAll] at h; cases h
    | cons x l ih =>
     intro hh
     rw [fdAll] at hh
     cases ho : fdOne (nearF near) x with
     | error e2 =>
      rw [ho] at hh
      injection hh with hh
      subst hh
      unfold fdOne at ho
      split at ho
      ·split at ho
       ·cases ho
       ·rename_i c; injection ho with ho; rw [← ho]; exact c
      split at ho
      ·split at ho
       ·cases ho
       ·rename_i c; injection ho with ho; rw [← ho]; exact c
      split at ho
      ·split at ho
       ·cases ho
       ·rename_i c; injection ho with ho; rw [← ho]; exact c
      ·cases ho
     | ok y =>
      rw [ho] at hh
      dsimp only at hh
      cases hl : fdAll (nearF near) l with
      | error e2 =>
       rw [hl] at hh
       injection hh with hh
       subst hh
       exact ih hl
      | ok z => rw [hl] at hh; cases hh
   exact key _ hf h3
  | ok y =>
   obtain ⟨r2, a2, k⟩ := y
   rw [feedP_ok h1 hf] at h
   split at h
   ·cases h
   rename_i hk
   split at h
   ·cases h
   injection h with h2 _
   injection h2 with h2 h3
   subst h2 h3
   exact ⟨(splitP s).1, k, by rw [← h1], hf, hk⟩
 ·rw [feedP_split h1] at h
  injection h with _ h2
  exact absurd h2 h1
theorem feedP_len {s : ByteArray} {near : Int} {r : List R5} {a : List Int} (h : feedP s near = ((r, a), 0)) : r.length ≤ 4096 ∧ a.length ≤ 4096 := by
 obtain ⟨l, k, h1, h2, h3⟩ := feedP_good h
 rw [feedP_ok (by rw [h1]) (by rw [h1]; exact h2), if_neg h3] at h
 split at h
 ·cases h
 ·omega
theorem feedP_join {s t T : ByteArray} {near : Int} {r r2 : List R5} {a a2 : List Int} {l m : List P3} (hs : feedP s near = ((r, a), 0)) (ht : feedP t near = ((r2, a2), 0)) (hl : splitP s = (l, 0)) (hm : splitP t = (m, 0)) (hJ : joinP (l ++ m) = (T, 0)) (hr : r.length + r2.length ≤ 4096) (ha : a.length + a2.length ≤ 4096) : feedP T near = ((r ++ r2, a ++ a2), 0) := by
 obtain ⟨l', k, e1, f1, hk⟩ := feedP_good hs
 obtain ⟨m', k2, e2, f2, _⟩ := feedP_good ht
 rw [hl] at e1
 rw [hm] at e2
 injection e1 with e1 _
 injection e2 with e2 _
 subst e1 e2
 have hT := (split_join _ _ hJ).1
 have hA : fdAll (nearF near) (l ++ m) = .ok (r ++ r2, a ++ a2, k + k2) := by
  rw [fdAll_append, f1, f2]
  rfl
 rw [feedP_ok (by rw [hT]) (by rw [hT]; exact hA), if_neg (by omega), if_neg (by simp only [List.length_append]; omega)]
theorem feedP_errs {s : ByteArray} {near : Int} (h : (feedP s near).2 ≠ 0) : (feedP s near).1 = ([], []) := by
 by_cases h1 : (splitP s).2 = 0
 ·cases hf : fdAll (nearF near) (splitP s).1 with
  | error e => rw [feedP_bad h1 hf]
  | ok y =>
   obtain ⟨r, a, k⟩ := y
   rw [feedP_ok h1 hf] at h ⊢
   split
   ·rfl
   ·rename_i hk
    rw [if_neg hk] at h
    split
    ·rfl
    ·rename_i hc
     rw [if_neg hc] at h
     exact absurd rfl h
 ·rw [feedP_split h1]
theorem feedP_none {T : ByteArray} {near : Int} {o : P3} (ho : o.2.1 ≠ 205) (h : splitP T = ([o, o], 0)) : feedP T near = (([], []), 120) := by
 have h1 : fdOne (nearF near) o = .ok fdNil := fd_none (fun hh => ho hh.1)
 have hA : fdAll (nearF near) [o, o] = .ok ([], [], 0) := by
  rw [fdAll, h1, fdAll, h1, fdAll]
  rfl
 rw [feedP_ok (by rw [h]) (by rw [h]; exact hA), if_pos rfl]
theorem feedP_among {s U : ByteArray} {near : Int} {o : P3} {l : List P3} (ho : o.2.1 ≠ 205) (hs : splitP s = (l, 0)) (hU : splitP U = (o :: (l ++ [o]), 0)) : feedP U near = feedP s near := by
 have h1 : fdOne (nearF near) o = .ok fdNil := fd_none (fun hh => ho hh.1)
 have h2 : fdAll (nearF near) [o] = .ok fdNil := by
  rw [fdAll, h1, fdAll]
  rfl
 have hA : fdAll (nearF near) (o :: (l ++ [o])) = fdAll (nearF near) l := by
  rw [fdAll, h1]
  dsimp only
  rw [fdAll_append, h2]
  cases fdAll (nearF near) l with
  | error e => rfl
  | ok b =>
   dsimp only
   rw [Fd.add_nil, Fd.nil_add]
 unfold feedP
 rw [hs, hU]
 dsimp only
 rw [hA]
theorem join_others {s : ByteArray} {o : P3} {l : List P3} (ho : partOk o = true) (hz : o.2.2.size = 4) (hs : splitP s = (l, 0)) (hn : s.size ≤ 30000) : (joinP (o :: (l ++ [o]))).2 = 0 ∧ (joinP [o, o]).2 = 0 := by
 obtain ⟨h1, h2, h3⟩ := splitP_inv hs
 obtain ⟨h4, h5, _⟩ := splitR_ok _ s _ rfl h3
 have ht : sizeP o = 8 := by unfold sizeP; rw [hz]
 constructor
 ·unfold joinP
  rw [if_neg (by simp), if_neg, if_neg]
  ·rw [total_cons, total_append, total_cons, total_nil, ht]; omega
  ·intro hh
   apply hh
   rw [List.all_eq_true]
   intro x hx
   rcases List.mem_cons.1 hx with rfl | hx
   ·exact ho
   rcases List.mem_append.1 hx with hx | hx
   ·exact h4 x hx
   ·rw [List.mem_singleton.1 hx]; exact ho
 ·unfold joinP
  rw [if_neg (by simp), if_neg, if_neg]
  ·rw [total_cons, total_cons, total_nil, ht]; omega
  ·intro hh
   apply hh
   rw [List.all_eq_true]
   intro x hx
   rcases List.mem_cons.1 hx with rfl | hx
   ·exact ho
   ·rw [List.mem_singleton.1 hx]; exact ho
end Go.Proofs.Ytgakmnholegbgaa.B
end
section
namespace Go.Proofs.Ytgakmnholegbgaa.B
open Go.RowKit Go.Proofs.YtgakmnholegbgaaW.PrintWords Go.Proofs.YtgakmnholegbgaaW.PrintLast Go.Proofs.YtgakmnholegbgaaW.PrintMore
set_option linter.unusedVariables false
set_option linter.unusedSimpArgs false
theorem partV_app (l m : List P3) : partV (l ++ m) = partV l ++ partV m := by simp [partV]
theorem partV_oneC (l : List P3) : ∀ u ∈ partV l, u.oneCell' = true := by
 intro u hu
 simp only [partV, List.mem_flatMap] at hu
 obtain ⟨x, _, hx⟩ := hu
 simp only [List.mem_cons, List.not_mem_nil, or_false] at hx
 rcases hx with rfl | rfl | rfl <;> rfl
structure FJ (w0 w : World) (g7 g9 : Nat) (v1 u1 v2 u2 : Value) (R1 : List R5) (A1 : List Int) (R2 : List R5) (A2 : List Int) : Prop where
 k7 : w.heap[g7]? = some (.cells #[v1, u1] 26 (0, 0))
 k9 : w.heap[g9]? = some (.cells #[v2, u2] 26 (0, 0))
 r1 : RowV w w0.heap.size 58 5 v1 R1.length (repV R1)
 a1 : RowV w w0.heap.size 3 1 u1 A1.length (iV A1)
 r2 : RowV w w0.heap.size 58 5 v2 R2.length (repV R2)
 a2 : RowV w w0.heap.size 3 1 u2 A2.length (iV A2)
 bel : Below w0.heap.size w0 w
theorem FJ.step {w0 w w' : World} {g7 g9 : Nat} {v1 u1 v2 u2 : Value} {R1 : List R5} {A1 : List Int} {R2 : List R5} {A2 : List Int} (h : FJ w0 w g7 g9 v1 u1 v2 u2 R1 A1 R2 A2) (hb : Below w.heap.size w w') : FJ w0 w' g7 g9 v1 u1 v2 u2 R1 A1 R2 A2 :=
 ⟨(hb.block g7 (blk_lt h.k7)).trans h.k7, (hb.block g9 (blk_lt h.k9)).trans h.k9, h.r1.below hb, h.a1.below hb, h.r2.below hb, h.a2.below hb, h.bel.trans (hb.mono h.bel.size)⟩
theorem FJ.mid {w0 w w' : World} {g7 g9 : Nat} {v1 u1 v2 u2 : Value} {R1 : List R5} {A1 : List Int} {R2 : List R5} {A2 : List Int} (h : FJ w0 w g7 g9 v1 u1 v2 u2 R1 A1 R2 A2) (hb : Below w.heap.size w w') : FJ w0 w' g7 g9 v1 u1 v2 u2 R1 A1 R2 A2 := h.step hb
theorem below_mid {w w1 w5 : World} {row : Option Nat} (hb : Below w.heap.size w w1) (hG : w1.grownBy w5 row) (hr : ∀ k, row = some k → w.heap.size ≤ k) (h0 : w.heap.size ≤ w1.heap.size) : Below w.heap.size w w5 := below_base hb hG hr h0
theorem joinT_size {l : List P3} {T : ByteArray} (h : joinP l = (T, 0)) : T.size ≤ 65536 := by
 obtain ⟨_, h2, _, _, h5⟩ := split_join _ _ h
 rw [h2, tx_size, allBytes_length]
 exact h5
set_option maxHeartbeats 16000000 in
set_option maxRecDepth 100000 in
theorem feedJoins_any (s t : ByteArray) (near : Int) (w : World) (hs : s.size ≤ 140737488351232) (ht : t.size ≤ 140737488351232) (hn : I64 near) : Calls Try.prog 4 #[.string s, .string t, .int .i64 near] w fun e w' => e = .returned (.bool true) ∧ Below w.heap.size w w' := by
 by_cases h : 60000 < s.size + t.size
 ·have d1 : decide (60000 < (s.size : Int) + (t.size : Int)) = true := decide_eq_true (by omega)
  go_enter Try.func4, Try.ntmps4
  go_wp2_with fail
  refine (wakesF_any _).mono ?_
  rintro e wz ⟨rfl, hb⟩
  have HBz := Aside0.mk ((Below.refl w.heap.size w).trans (hb.mono (Below.refl w.heap.size w).size))
  clear hb
  go_wp2_with fail
  go_ret
  exact ⟨rfl, HBz.out⟩
 have d1 : decide (60000 < (s.size : Int) + (t.size : Int)) = false := decide_eq_false (by omega)
 have C1 := Aside0.mk (fun w => read_any_F s near w (by omega) hn)
 have C2 := Aside0.mk (fun w => read_any_F t near w (by omega) hn)
 obtain ⟨⟨⟨R1, A1⟩, E1⟩, hP1⟩ : ∃ f, f = feedP s near := ⟨_, rfl⟩
 obtain ⟨⟨⟨R2, A2⟩, E2⟩, hP2⟩ : ∃ f, f = feedP t near := ⟨_, rfl⟩
 unfold FeedPost at C1 C2
 rw [← hP1] at C1
 rw [← hP2] at C2
 dsimp only at C1 C2
 have HP1 := Aside0.mk hP1
 have HP2 := Aside0.mk hP2
 clear hP1 hP2
 go_enter Try.func4, Try.ntmps4
 go_wp2_with fail
 refine (C1.out w).mono ?_
 rintro e w1 ⟨vR, vA, rfl, hR, hA, hb1⟩
 obtain ⟨B1, c1, rfl, -, -⟩ := hR.form
 obtain ⟨D1, d1_, rfl, -, -⟩ := hA.form
 have HB := Aside0.mk (hb1.alloc hb1.size (.cells #[.slice B1 R1.length c1, .slice D1 A1.length d1_] 26))
 have HR1 := Aside0.mk (hR.alloc (.cells #[.slice B1 R1.length c1, .slice D1 A1.length d1_] 26))
 have HA1 := Aside0.mk (hA.alloc (.cells #[.slice B1 R1.length c1, .slice D1 A1.length d1_] 26))
 have K7 := Aside0.mk (blk_new w1 (.cells #[.slice B1 R1.length c1, .slice D1 A1.length d1_] 26))
 clear hR hA hb1
 go_upto_region 4 with fail
 obtain ⟨g7, hg7⟩ : ∃ g, g = w1.heap.size := ⟨_, rfl⟩
 rw [← hg7] at K7 ⊢
 clear hg7
 generalize w1.alloc (.cells #[.slice B1 R1.length c1, .slice D1 A1.length d1_] 26) = w2 at *
 go_wp2_with fail
 refine (C2.out w2).mono ?_
 rintro e w3 ⟨vR, vA, rfl, hR, hA, hb3⟩
 obtain ⟨B2, c2, rfl, -, -⟩ := hR.form
 obtain ⟨D2, d2, rfl, -, -⟩ := hA.form
 have hsz := HB.out.size
 have HF : Aside0 (FJ w (w3.alloc (.cells #[.slice B2 R2.length c2, .slice D2 A2.length d2] 26)) g7 w3.heap.size (.slice B1 R1.length c1) (.slice D1 A1.length d1_) (.slice B2 R2.length c2) (.slice D2 A2.length d2) R1 A1 R2 A2) := ⟨⟨gb_blk (World.grownBy_alloc w3 (.cells #[.slice B2 R2.length c2, .slice D2 A2.length d2] 26) none) ((hb3.block g7 (blk_lt K7.out)).trans K7.out) (fun k hk => by cases hk), blk_new w3 (.cells #[.slice B2 R2.length c2, .slice D2 A2.length d2] 26), (HR1.out.below hb3).alloc (.cells #[.slice B2 R2.length c2, .slice D2 A2.length d2] 26), (HA1.out.below hb3).alloc (.cells #[.slice B2 R2.length c2, .slice D2 A2.length d2] 26), (hR.low hsz).alloc (.cells #[.slice B2 R2.length c2, .slice D2 A2.length d2] 26), (hA.low hsz).alloc (.cells #[.slice B2 R2.length c2, .slice D2 A2.length d2] 26), (HB.out.trans (hb3.mono hsz)).alloc (HB.out.trans (hb3.mono hsz)).size (.cells #[.slice B2 R2.length c2, .slice D2 A2.length d2] 26)⟩⟩
 clear hR hA hb3 K7 HR1 HA1 HB C1 C2 hsz
 go_upto_region 5 with fail
 obtain ⟨g9, hg9⟩ : ∃ g, g = w3.heap.size := ⟨_, rfl⟩
 rw [← hg9] at HF ⊢
 clear hg9
 generalize w3.alloc (.cells #[.slice B2 R2.length c2, .slice D2 A2.length d2] 26) = w4 at *
 have x0 := blk_cell HF.out.k7 0
 have x1 := blk_cell HF.out.k7 1
 simp only [List.getElem?_toArray, List.getElem?_cons_zero, List.getElem?_cons_succ] at x0 x1
 have y0 := blk_cell HF.out.k9 0
 have y1 := blk_cell HF.out.k9 1
 simp only [List.getElem?_toArray, List.getElem?_cons_zero, List.getElem?_cons_succ] at y0 y1
 by_cases z1 : E1 = 0
 ·have p1 : (E1 != 0) = false := by simp [z1]
  have p1' : (E1 == 0) = true := by simp [z1]
  by_cases z2 : E2 = 0
  ·have p2 : (E2 != 0) = false := by simp [z2]
   have hf1 : feedP s near = ((R1, A1), 0) := by rw [← HP1.out, z1]
   have hf2 : feedP t near = ((R2, A2), 0) := by rw [← HP2.out, z2]
   obtain ⟨l, k1, hl, hl2, _⟩ := feedP_good hf1
   obtain ⟨m, k2, hm, hm2, _⟩ := feedP_good hf2
   obtain ⟨b1, b1'⟩ := feedP_len hf1
   obtain ⟨b2, b2'⟩ := feedP_len hf2
   have HF1 := Aside0.mk hf1
   have HF2 := Aside0.mk hf2
   have hll := split_lenF s
   have hml := split_lenF t
   have CS1 := Aside0.mk (fun w => rsplit_anyF s w (by omega))
   have CS2 := Aside0.mk (fun w => rsplit_anyF t w (by omega))
   have hz1 := split_sizes s
   have hz2 := split_sizes t
   unfold SplitPost at CS1 CS2
   rw [hl] at CS1 hz1 hll
   rw [hm] at CS2 hz2 hml
   dsimp only at CS1 CS2 hz1 hz2 hll hml
   have HZ : Aside0 (∀ x ∈ l ++ m, x.2.2.size ≤ 9223372036854775807) := ⟨fun x hx => by
    rcases List.mem_append.1 hx with hx | hx
    ·exact Nat.le_trans (hz1 x hx) (by decide)
    ·exact Nat.le_trans (hz2 x hx) (by decide)⟩
   have HL := Aside0.mk hl
   have HM := Aside0.mk hm
   clear hf1 hf2 hl2 hm2 z1 z2 hz1 hz2 hl hm
   go_wp2_with fail
   clear x0 x1 y0 y1
   have HF40 := HF
   refine (CS1.out w4).mono ?_
   rintro e w5 ⟨v11, rfl, hv11, hb⟩
   obtain ⟨P1, n1, rfl, -, -⟩ := hv11.form
   clear HF
   have HV11 := Aside0.mk hv11
   have hB45 := Aside0.mk hb
   clear hb hv11
   go_wp2_with fail
   refine (CS2.out w5).mono ?_
   rintro e w6 ⟨v13, rfl, hv13, hb⟩
   obtain ⟨P2, n2, rfl, -, -⟩ := hv13.form
   replace HV11 := Aside0.mk (HV11.out.below hb)
   have HV13 := Aside0.mk hv13
   have hB46 := Aside0.mk (hB45.out.trans (hb.mono hB45.out.size))
   have HB46 : Aside0 (w4.heap.size ≤ w6.heap.size) := ⟨hB46.out.size⟩
   clear hb hv13 hB45
   go_wp2_with (at_builtin; go_loud (refine wpList_plain rfl fun K_ hK_ => row_append_any (w := w6) (.tmp 88) (.tmp 89) 36 rfl 56 Try.t56 (.agg #[.int .i64 0, .int .i64 0, .string { data := #[] }]) 3 32 Try.underlying36 (by kernel_rfl) rfl rfl rfl (by decide) (by decide) w4.heap.size (.slice P1 l.length n1) l.length (partV l) (by rfl) HV11.out w5.heap.size (.slice P2 m.length n2) m.length (partV m) (by rfl) HV13.out (partV_oneC m) (by simp only [maxLen]; omega) (by omega) HB46.out ?_); rintro v1 w7 hR6 hG6 ⟨A6, c6, rfl⟩; refine hK_ _ _ ?_; have HRP := Aside0.mk hR6; have HGP := Aside0.mk hG6; clear hR6 hG6 hK_)
   have HX : Aside0 (RowV w7 w4.heap.size 56 3 (.slice A6 (l.length + m.length) c6) (l ++ m).length (partV (l ++ m))) := ⟨by rw [List.length_append, partV_app]; exact HRP.out⟩
   have HB7 := Aside0.mk (below_mid hB46.out HGP.out (fun k hk => (HV11.out.lt hk).2.1) HB46.out)
   have hPA := (PartsAt.of_row HX.out rfl).2.1
   have CJ := Aside0.mk (rjoin_any A6 c6 (l ++ m) w7 (by rw [List.length_append]; omega) hPA HZ.out)
   rw [List.length_append] at CJ
   obtain ⟨⟨T, K⟩, hJ⟩ : ∃ j, j = joinP (l ++ m) := ⟨_, rfl⟩
   rw [← hJ] at CJ
   dsimp only at CJ
   have HJ := Aside0.mk hJ
   clear hPA hJ HRP HGP HX
   have HF := Aside0.mk (FJ.mid HF40.out HB7.out)
   clear HF40 HB7 HV11 HV13 HB46 hB46
   refine CJ.out.mono ?_
   rintro e w8 ⟨rfl, hb⟩
   replace HF := Aside0.mk (HF.out.step hb)
   clear hb CJ
   have x0 := blk_cell HF.out.k7 0
   have x1 := blk_cell HF.out.k7 1
   simp only [List.getElem?_toArray, List.getElem?_cons_zero, List.getElem?_cons_succ] at x0 x1
   have y0 := blk_cell HF.out.k9 0
   have y1 := blk_cell HF.out.k9 1
   simp only [List.getElem?_toArray, List.getElem?_cons_zero, List.getElem?_cons_succ] at y0 y1
   by_cases zK : K = 0
   ·have pK : (K != 0) = false := by simp [zK]
    by_cases zr : 4096 < R1.length + R2.length
    ·have pr : decide (4096 < (R1.length : Int) + (R2.length : Int)) = true := decide_eq_true (by omega)
     go_wp2_with fail
     refine (wakesF_any _).mono ?_
     rintro e wz ⟨rfl, hb⟩
     have HBz := Aside0.mk (HF.out.bel.trans (hb.mono HF.out.bel.size))
     clear hb
     go_wp2_with fail
     go_ret
     exact ⟨rfl, HBz.out⟩
    ·have pr : decide (4096 < (R1.length : Int) + (R2.length : Int)) = false := decide_eq_false (by omega)
     by_cases za : 4096 < A1.length + A2.length
     ·have pa : decide (4096 < (A1.length : Int) + (A2.length : Int)) = true := decide_eq_true (by omega)
      go_wp2_with fail
      refine (wakesF_any _).mono ?_
      rintro e wz ⟨rfl, hb⟩
      have HBz := Aside0.mk (HF.out.bel.trans (hb.mono HF.out.bel.size))
      clear hb
      go_wp2_with fail
      go_ret
      exact ⟨rfl, HBz.out⟩
     ·have pa : decide (4096 < (A1.length : Int) + (A2.length : Int)) = false := decide_eq_false (by omega)
      have hJT : joinP (l ++ m) = (T, 0) := by rw [← HJ.out, zK]
      have hTs := joinT_size hJT
      have hfe := feedP_join HF1.out HF2.out HL.out HM.out hJT (by omega) (by omega)
      obtain ⟨RX, hRX⟩ : ∃ X, X = R1 ++ R2 := ⟨_, rfl⟩
      obtain ⟨AX, hAX⟩ : ∃ X, X = A1 ++ A2 := ⟨_, rfl⟩
      rw [← hRX, ← hAX] at hfe
      have HRX := Aside0.mk hRX
      have HAX := Aside0.mk hAX
      clear hRX hAX
      have C3 := Aside0.mk (fun w => read_any_F T near w (by omega) hn)
      unfold FeedPost at C3
      rw [hfe] at C3
      dsimp only at C3
      clear hfe hJT
      go_wp2_with fail
      clear x0 x1 y0 y1
      refine (C3.out w8).mono ?_
      rintro e w9 ⟨vR, vA, rfl, hR, hA, hb⟩
      replace HF := Aside0.mk (HF.out.step hb)
      obtain ⟨B3_, c3, rfl, -, -⟩ := hR.form
      obtain ⟨D3, d3, rfl, -, -⟩ := hA.form
      have K17 := Aside0.mk (blk_new w9 (.cells #[.slice B3_ RX.length c3, .slice D3 AX.length d3] 26))
      have HR3 := Aside0.mk (hR.alloc (.cells #[.slice B3_ RX.length c3, .slice D3 AX.length d3] 26))
      have HA3 := Aside0.mk (hA.alloc (.cells #[.slice B3_ RX.length c3, .slice D3 AX.length d3] 26))
      replace HF := Aside0.mk (HF.out.step ((Below.refl w9.heap.size w9).alloc (Nat.le_refl _) (.cells #[.slice B3_ RX.length c3, .slice D3 AX.length d3] 26)))
      clear hb hR hA C3
      go_upto_region 13 with fail
      obtain ⟨g17, hg17⟩ : ∃ g, g = w9.heap.size := ⟨_, rfl⟩
      rw [← hg17] at K17 ⊢
      clear hg17
      generalize w9.alloc (.cells #[.slice B3_ RX.length c3, .slice D3 AX.length d3] 26) = W at *
      replace HF := Aside0.mk (HF.out.step (Below.refl W.heap.size W).drew)
      replace HR3 := Aside0.mk (HR3.out.below (Below.refl W.heap.size W).drew)
      replace HA3 := Aside0.mk (HA3.out.below (Below.refl W.heap.size W).drew)
      have x0 := blk_cell (w := W) HF.out.k7 0
      have x1 := blk_cell (w := W) HF.out.k7 1
      have y0 := blk_cell (w := W) HF.out.k9 0
      have y1 := blk_cell (w := W) HF.out.k9 1
      have t0 := blk_cell K17.out 0
      have t1 := blk_cell K17.out 1
      simp only [List.getElem?_toArray, List.getElem?_cons_zero, List.getElem?_cons_succ] at x0 x1 y0 y1 t0 t1
      have l7 := blk_lt HF.out.k7
      have l9 := blk_lt HF.out.k9
      have l17 := blk_lt K17.out
      have zx0 : ∀ o, (W.alloc o).cell? ⟨g7, 0, none⟩ = some (.slice B1 R1.length c1) := fun o => (World.cell?_alloc_past _ _ _ l7).trans x0
      have zx1 : ∀ o, (W.alloc o).cell? ⟨g7, 1, none⟩ = some (.slice D1 A1.length d1_) := fun o => (World.cell?_alloc_past _ _ _ l7).trans x1
      have zy0 : ∀ o, (W.alloc o).cell? ⟨g9, 0, none⟩ = some (.slice B2 R2.length c2) := fun o => (World.cell?_alloc_past _ _ _ l9).trans y0
      have zy1 : ∀ o, (W.alloc o).cell? ⟨g9, 1, none⟩ = some (.slice D2 A2.length d2) := fun o => (World.cell?_alloc_past _ _ _ l9).trans y1
      have zt0 : ∀ o, (W.alloc o).cell? ⟨g17, 0, none⟩ = some (.slice B3_ RX.length c3) := fun o => (World.cell?_alloc_past _ _ _ l17).trans t0
      have zt1 : ∀ o, (W.alloc o).cell? ⟨g17, 1, none⟩ = some (.slice D3 AX.length d3) := fun o => (World.cell?_alloc_past _ _ _ l17).trans t1
      refine start_ (n := 30) (S := fun w' => w'.cell? ⟨g7, 0, none⟩ = some (.slice B1 R1.length c1) ∧ w'.cell? ⟨g7, 1, none⟩ = some (.slice D1 A1.length d1_) ∧ w'.cell? ⟨g9, 0, none⟩ = some (.slice B2 R2.length c2) ∧ w'.cell? ⟨g9, 1, none⟩ = some (.slice D2 A2.length d2) ∧ w'.cell? ⟨g17, 0, none⟩ = some (.slice B3_ RX.length c3) ∧ w'.cell? ⟨g17, 1, none⟩ = some (.slice D3 AX.length d3)) (ds := []) #[false, false, false, false, false, false, false, false, false, false, false, false, false, false, false, false, false, false, false, false, false, false, false, false, false, false, false, false, false, false] (by kernel_rfl) rfl rfl ⟨x0, x1, y0, y1, t0, t1⟩ (fun hHeld => ?_)
      refine pure_ (i := 0) (N := some 139) (v := ?_) (a' := ?_) #[true, false, false, false, false, false, false, false, false, false, false, false, false, false, false, false, false, false, false, false, false, false, false, false, false, false, false, false, false, false] rfl rfl (by kernel_rfl) (fun _ _ _ h => h) (Or.inl ⟨by rfl, ?_⟩) ?_ ?_
      rotate_left
      ·intro w'
       go_simp
       with_reducible rfl
      rotate_left
      ·simp only [Act.put, List.setIfInBounds_toArray, List.set_cons_zero, List.set_cons_succ, i64_w, i32_w]
       rfl
      refine pure_ (i := 1) (N := some 140) (v := ?_) (a' := ?_) #[true, true, false, false, false, false, false, false, false, false, false, false, false, false, false, false, false, false, false, false, false, false, false, false, false, false, false, false, false, false] rfl rfl (by kernel_rfl) (fun _ _ _ h => h) (Or.inl ⟨by rfl, ?_⟩) ?_ ?_
      rotate_left
      ·intro w'
       go_simp
       with_reducible rfl
      rotate_left
      ·simp only [Act.put, List.setIfInBounds_toArray, List.set_cons_zero, List.set_cons_succ, i64_w, i32_w]
       rfl
      refine pure_ (i := 2) (N := some 141) (v := ?_) (a' := ?_) #[true, true, true, false, false, false, false, false, false, false, false, false, false, false, false, false, false, false, false, false, false, false, false, false, false, false, false, false, false, false] rfl rfl (by kernel_rfl) (fun _ _ _ h => h) (Or.inl ⟨by rfl, ?_⟩) ?_ ?_
      rotate_left
      ·intro w'
       go_simp
       with_reducible rfl
      rotate_left
      ·simp only [Act.put, List.setIfInBounds_toArray, List.set_cons_zero, List.set_cons_succ, i64_w, i32_w]
       rfl
      refine pure_ (i := 3) (N := some 142) (v := ?_) (a' := ?_) #[true, true, true, true, false, false, false, false, false, false, false, false, false, false, false, false, false, false, false, false, false, false, false, false, false, false, false, false, false, false] rfl rfl (by kernel_rfl) (fun _ _ _ h => h) (Or.inl ⟨by rfl, ?_⟩) ?_ ?_
      rotate_left
      ·intro w'
       go_simp
       with_reducible rfl
      rotate_left
      ·simp only [Act.put, List.setIfInBounds_toArray, List.set_cons_zero, List.set_cons_succ, i64_w, i32_w]
       rfl
      refine pure_ (i := 6) (N := some 145) (v := ?_) (a' := ?_) #[true, true, true, true, false, false, true, false, false, false, false, false, false, false, false, false, false, false, false, false, false, false, false, false, false, false, false, false, false, false] rfl rfl (by kernel_rfl) (fun _ _ _ h => h) (Or.inl ⟨by rfl, ?_⟩) ?_ ?_
      rotate_left
      ·intro w'
       go_simp
       with_reducible rfl
      rotate_left
      ·simp only [Act.put, List.setIfInBounds_toArray, List.set_cons_zero, List.set_cons_succ, i64_w, i32_w]
       rfl
      refine pure_ (i := 9) (N := some 148) (v := ?_) (a' := ?_) #[true, true, true, true, false, false, true, false, false, true, false, false, false, false, false, false, false, false, false, false, false, false, false, false, false, false, false, false, false, false] rfl rfl (by kernel_rfl) (fun _ _ _ h => h) (Or.inl ⟨by rfl, ?_⟩) ?_ ?_
      rotate_left
      ·intro w'
       go_simp
       with_reducible rfl
      rotate_left
      ·simp only [Act.put, List.setIfInBounds_toArray, List.set_cons_zero, List.set_cons_succ, i64_w, i32_w]
       rfl
      refine take_ (i := 4) (N := some 143) (v := ?_) (a' := ?_) #[true, true, true, true, true, false, true, false, false, true, false, false, false, false, false, false, false, false, false, false, false, false, false, false, false, false, false, false, false, false] rfl rfl (by kernel_rfl) (fun _ _ _ h => h) (Or.inl ⟨by rfl, ?_⟩) hHeld ?_ ?_
      rotate_left
      ·rintro w' ⟨s0, s1, s2, s3, s4, s5⟩
       go_simp
       with_reducible rfl
      rotate_left
      ·simp only [Act.put, List.setIfInBounds_toArray, List.set_cons_zero, List.set_cons_succ, i64_w, i32_w]
       rfl
      refine take_ (i := 7) (N := some 146) (v := ?_) (a' := ?_) #[true, true, true, true, true, false, true, true, false, true, false, false, false, false, false, false, false, false, false, false, false, false, false, false, false, false, false, false, false, false] rfl rfl (by kernel_rfl) (fun _ _ _ h => h) (Or.inl ⟨by rfl, ?_⟩) hHeld ?_ ?_
      rotate_left
      ·rintro w' ⟨s0, s1, s2, s3, s4, s5⟩
       go_simp
       with_reducible rfl
      rotate_left
      ·simp only [Act.put, List.setIfInBounds_toArray, List.set_cons_zero, List.set_cons_succ, i64_w, i32_w]
       rfl
      refine take_ (i := 10) (N := some 149) (v := ?_) (a' := ?_) #[true, true, true, true, true, false, true, true, false, true, true, false, false, false, false, false, false, false, false, false, false, false, false, false, false, false, false, false, false, false] rfl rfl (by kernel_rfl) (fun _ _ _ h => h) (Or.inl ⟨by rfl, ?_⟩) hHeld ?_ ?_
      rotate_left
      ·rintro w' ⟨s0, s1, s2, s3, s4, s5⟩
       go_simp
       with_reducible rfl
      rotate_left
      ·simp only [Act.put, List.setIfInBounds_toArray, List.set_cons_zero, List.set_cons_succ, i64_w, i32_w]
       rfl
      refine one_ (i := 5) (N := some 144) #[true, true, true, true, true, true, true, true, false, true, true, false, false, false, false, false, false, false, false, false, false, false, false, false, false, false, false, false, false, false] rfl rfl (by kernel_rfl) (by decide) (fun K hK => ?_)
      refine value_ (w1 := ?_) (v := ?_) (by rfl) rfl ?_ ?_
      rotate_left 2
      ·go_simp
       constructor
       ·rfl
       ·rfl
      refine hK.out _ _ ⟨(zx0 _), (zx1 _), (zy0 _), (zy1 _), (zt0 _), (zt1 _)⟩ (fun hHeld => ?_)
      clear hK K
      refine norm_ (a' := ?_) ?_ ?_
      rotate_left
      ·show Act.put _ (some 144) _ = _
       simp only [Act.put, List.setIfInBounds_toArray, List.set_cons_zero, List.set_cons_succ, i64_w, i32_w]
       rfl
      refine one_ (i := 8) (N := some 147) #[true, true, true, true, true, true, true, true, true, true, true, false, false, false, false, false, false, false, false, false, false, false, false, false, false, false, false, false, false, false] rfl rfl (by kernel_rfl) (by decide) (fun K hK => ?_)
      have Br1 : Below W.drew.heap.size W.drew (W.drew.alloc (.cells #[] 58)) := (Below.refl W.drew.heap.size W.drew).alloc (Below.refl W.drew.heap.size W.drew).size _
      have FJr0 := Aside0.mk (HF.out.step Br1)
      have hEr := RowV.empty W.drew W.drew.heap.size 58 5 (Nat.le_refl _)
      refine row_append_any (w := (W.drew.alloc (.cells #[] 58))) (.tmp 144) (.tmp 146) 23 rfl 58 Try.t58 (.agg #[.int .i64 0, .bool false, .int .i64 0, .bool false, .bool false]) 5 32 Try.underlying23 (by kernel_rfl) rfl rfl rfl (by decide) (by decide) W.drew.heap.size (.slice (some ⟨W.drew.heap.size, 0, none⟩) 0 0) 0 [] (by rfl) hEr w.heap.size _ R1.length (repV R1) (by rfl) FJr0.out.r1 (repV_one R1) (by simp only [maxLen]; omega) (by omega) (Nat.le_trans (Nat.le_refl _) (Below.size ((Below.refl _ W.drew).alloc (Nat.le_refl _) _))) ?_
      rintro vr1 wr1 hRr1 hGr1 ⟨Ar1, cr1, rfl⟩
      have BBr1 : Below W.drew.heap.size W.drew wr1 := below_mid Br1 hGr1 (fun k hk => Nat.le_trans (Below.size (Below.refl W.drew.heap.size W.drew)) (hEr.lt hk).2.1) Br1.size
      have FJr1 := Aside0.mk (HF.out.step BBr1)
      have K17r1 := Aside0.mk ((BBr1.block g17 l17).trans K17.out)
      have x0r1 := blk_cell FJr1.out.k7 0
      have x1r1 := blk_cell FJr1.out.k7 1
      have y0r1 := blk_cell FJr1.out.k9 0
      have y1r1 := blk_cell FJr1.out.k9 1
      have t0r1 := blk_cell K17r1.out 0
      have t1r1 := blk_cell K17r1.out 1
      simp only [List.getElem?_toArray, List.getElem?_cons_zero, List.getElem?_cons_succ] at x0r1 x1r1 y0r1 y1r1 t0r1 t1r1
      refine hK.out _ _ ⟨x0r1, x1r1, y0r1, y1r1, t0r1, t1r1⟩ (fun hHeld => ?_)
      clear hK K
      refine norm_ (a' := ?_) ?_ ?_
      rotate_left
      ·show Act.put _ (some 147) _ = _
       simp only [Act.put, List.setIfInBounds_toArray, List.set_cons_zero, List.set_cons_succ, i64_w, i32_w]
       rfl
      refine one_ (i := 11) (N := some 150) #[true, true, true, true, true, true, true, true, true, true, true, true, false, false, false, false, false, false, false, false, false, false, false, false, false, false, false, false, false, false] rfl rfl (by kernel_rfl) (by decide) (fun K hK => ?_)
      refine row_append_any (w := wr1) (.tmp 147) (.tmp 149) 23 rfl 58 Try.t58 (.agg #[.int .i64 0, .bool false, .int .i64 0, .bool false, .bool false]) 5 32 Try.underlying23 (by kernel_rfl) rfl rfl rfl (by decide) (by decide) W.drew.heap.size (.slice Ar1 (0 + R1.length) cr1) (0 + R1.length) ([] ++ repV R1) (by rfl) hRr1 w.heap.size _ R2.length (repV R2) (by rfl) FJr1.out.r2 (repV_one R2) (by simp only [maxLen]; omega) (by omega) (Nat.le_trans (Below.size ((Below.refl _ W.drew).alloc (Nat.le_refl _) (.cells #[] 58))) hGr1.size) ?_
      rintro vr2 wr2 hRr2 hGr2 ⟨Ar2, cr2, rfl⟩
      have BBr2 : Below W.drew.heap.size W.drew wr2 := below_mid BBr1 hGr2 (fun k hk => Nat.le_trans (Below.size (Below.refl W.drew.heap.size W.drew)) (hRr1.lt hk).2.1) BBr1.size
      have hQr : RowV wr2 W.drew.heap.size 58 5 (.slice Ar2 (0 + R1.length + R2.length) cr2) RX.length (repV RX) := by
       have e1 : (R1 ++ R2).length = 0 + R1.length + R2.length := by simp
       have e2 : repV (R1 ++ R2) = [] ++ repV R1 ++ repV R2 := by simp [repV]
       rw [HRX.out, e1, e2]
       exact hRr2
      have FJr2 := Aside0.mk (HF.out.step BBr2)
      have K17r2 := Aside0.mk ((BBr2.block g17 l17).trans K17.out)
      have x0r2 := blk_cell FJr2.out.k7 0
      have x1r2 := blk_cell FJr2.out.k7 1
      have y0r2 := blk_cell FJr2.out.k9 0
      have y1r2 := blk_cell FJr2.out.k9 1
      have t0r2 := blk_cell K17r2.out 0
      have t1r2 := blk_cell K17r2.out 1
      simp only [List.getElem?_toArray, List.getElem?_cons_zero, List.getElem?_cons_succ] at x0r2 x1r2 y0r2 y1r2 t0r2 t1r2
      refine hK.out _ _ ⟨x0r2, x1r2, y0r2, y1r2, t0r2, t1r2⟩ (fun hHeld => ?_)
      clear hK K
      refine norm_ (a' := ?_) ?_ ?_
      rotate_left
      ·show Act.put _ (some 150) _ = _
       simp only [Act.put, List.setIfInBounds_toArray, List.set_cons_zero, List.set_cons_succ, i64_w, i32_w]
       rfl
      refine one_ (i := 12) (N := some 151) #[true, true, true, true, true, true, true, true, true, true, true, true, true, false, false, false, false, false, false, false, false, false, false, false, false, false, false, false, false, false] rfl rfl (by kernel_rfl) (by decide) (fun K hK => ?_)
      refine goes_ Try.func10 (by kernel_rfl) rfl #[.slice B3_ RX.length c3, .slice Ar2 (0 + R1.length + R2.length) cr2] (by rfl) rfl rfl (by simp only [List.map_toArray, List.map_cons, List.map_nil]; rfl) ?_
      with_reducible refine (reports_same wr2 _ _ _ _ RX (HR3.out.below BBr2) hQr).mono ?_
      rintro e wD ⟨rfl, hbD⟩
      refine ⟨_, rfl, ?_⟩
      have BD : Below W.drew.heap.size W.drew wD := BBr2.trans (hbD.mono BBr2.size)
      have FJD := Aside0.mk (HF.out.step BD)
      have K17D := Aside0.mk ((BD.block g17 l17).trans K17.out)
      have x0D := blk_cell FJD.out.k7 0
      have x1D := blk_cell FJD.out.k7 1
      have y0D := blk_cell FJD.out.k9 0
      have y1D := blk_cell FJD.out.k9 1
      have t0D := blk_cell K17D.out 0
      have t1D := blk_cell K17D.out 1
      simp only [List.getElem?_toArray, List.getElem?_cons_zero, List.getElem?_cons_succ] at x0D x1D y0D y1D t0D t1D
      have zD := fun o => (Aside0.mk (BD.alloc BD.size o)).out
      have zx0D : ∀ o, (wD.alloc o).cell? ⟨g7, 0, none⟩ = some (.slice B1 R1.length c1) := fun o => (World.cell?_alloc_past _ _ _ (Nat.lt_of_lt_of_le l7 BD.size)).trans x0D
      have zx1D : ∀ o, (wD.alloc o).cell? ⟨g7, 1, none⟩ = some (.slice D1 A1.length d1_) := fun o => (World.cell?_alloc_past _ _ _ (Nat.lt_of_lt_of_le l7 BD.size)).trans x1D
      have zy0D : ∀ o, (wD.alloc o).cell? ⟨g9, 0, none⟩ = some (.slice B2 R2.length c2) := fun o => (World.cell?_alloc_past _ _ _ (Nat.lt_of_lt_of_le l9 BD.size)).trans y0D
      have zy1D : ∀ o, (wD.alloc o).cell? ⟨g9, 1, none⟩ = some (.slice D2 A2.length d2) := fun o => (World.cell?_alloc_past _ _ _ (Nat.lt_of_lt_of_le l9 BD.size)).trans y1D
      have zt0D : ∀ o, (wD.alloc o).cell? ⟨g17, 0, none⟩ = some (.slice B3_ RX.length c3) := fun o => (World.cell?_alloc_past _ _ _ (Nat.lt_of_lt_of_le l17 BD.size)).trans t0D
      have zt1D : ∀ o, (wD.alloc o).cell? ⟨g17, 1, none⟩ = some (.slice D3 AX.length d3) := fun o => (World.cell?_alloc_past _ _ _ (Nat.lt_of_lt_of_le l17 BD.size)).trans t1D
      refine hK.out _ _ ⟨x0D, x1D, y0D, y1D, t0D, t1D⟩ (fun hHeld => ?_)
      clear hK K
      refine norm_ (a' := ?_) ?_ ?_
      rotate_left
      ·show Act.put _ (some 151) _ = _
       simp only [Act.put, List.setIfInBounds_toArray, List.set_cons_zero, List.set_cons_succ, i64_w, i32_w]
       rfl
      refine pure_ (i := 13) (N := some 152) (v := ?_) (a' := ?_) #[true, true, true, true, true, true, true, true, true, true, true, true, true, true, false, false, false, false, false, false, false, false, false, false, false, false, false, false, false, false] rfl rfl (by kernel_rfl) (fun _ _ _ h => h) (Or.inl ⟨by rfl, ?_⟩) ?_ ?_
      rotate_left
      ·intro w'
       go_simp
       with_reducible rfl
      rotate_left
      ·simp only [Act.put, List.setIfInBounds_toArray, List.set_cons_zero, List.set_cons_succ, i64_w, i32_w]
       rfl
      refine pure_ (i := 14) (N := some 153) (v := ?_) (a' := ?_) #[true, true, true, true, true, true, true, true, true, true, true, true, true, true, true, false, false, false, false, false, false, false, false, false, false, false, false, false, false, false] rfl rfl (by kernel_rfl) (fun _ _ _ h => h) (Or.inl ⟨by rfl, ?_⟩) ?_ ?_
      rotate_left
      ·intro w'
       go_simp
       with_reducible rfl
      rotate_left
      ·simp only [Act.put, List.setIfInBounds_toArray, List.set_cons_zero, List.set_cons_succ, i64_w, i32_w]
       rfl
      refine pure_ (i := 15) (N := some 154) (v := ?_) (a' := ?_) #[true, true, true, true, true, true, true, true, true, true, true, true, true, true, true, true, false, false, false, false, false, false, false, false, false, false, false, false, false, false] rfl rfl (by kernel_rfl) (fun _ _ _ h => h) (Or.inl ⟨by rfl, ?_⟩) ?_ ?_
      rotate_left
      ·intro w'
       go_simp
       with_reducible rfl
      rotate_left
      ·simp only [Act.put, List.setIfInBounds_toArray, List.set_cons_zero, List.set_cons_succ, i64_w, i32_w]
       rfl
      refine pure_ (i := 18) (N := some 157) (v := ?_) (a' := ?_) #[true, true, true, true, true, true, true, true, true, true, true, true, true, true, true, true, false, false, true, false, false, false, false, false, false, false, false, false, false, false] rfl rfl (by kernel_rfl) (fun _ _ _ h => h) (Or.inl ⟨by rfl, ?_⟩) ?_ ?_
      rotate_left
      ·intro w'
       go_simp
       with_reducible rfl
      rotate_left
      ·simp only [Act.put, List.setIfInBounds_toArray, List.set_cons_zero, List.set_cons_succ, i64_w, i32_w]
       rfl
      refine pure_ (i := 21) (N := some 160) (v := ?_) (a' := ?_) #[true, true, true, true, true, true, true, true, true, true, true, true, true, true, true, true, false, false, true, false, false, true, false, false, false, false, false, false, false, false] rfl rfl (by kernel_rfl) (fun _ _ _ h => h) (Or.inl ⟨by rfl, ?_⟩) ?_ ?_
      rotate_left
      ·intro w'
       go_simp
       with_reducible rfl
      rotate_left
      ·simp only [Act.put, List.setIfInBounds_toArray, List.set_cons_zero, List.set_cons_succ, i64_w, i32_w]
       rfl
      refine take_ (i := 16) (N := some 155) (v := ?_) (a' := ?_) #[true, true, true, true, true, true, true, true, true, true, true, true, true, true, true, true, true, false, true, false, false, true, false, false, false, false, false, false, false, false] rfl rfl (by kernel_rfl) (fun _ _ _ h => h) (Or.inl ⟨by rfl, ?_⟩) hHeld ?_ ?_
      rotate_left
      ·rintro w' ⟨s0, s1, s2, s3, s4, s5⟩
       go_simp
       with_reducible rfl
      rotate_left
      ·simp only [Act.put, List.setIfInBounds_toArray, List.set_cons_zero, List.set_cons_succ, i64_w, i32_w]
       rfl
      refine take_ (i := 19) (N := some 158) (v := ?_) (a' := ?_) #[true, true, true, true, true, true, true, true, true, true, true, true, true, true, true, true, true, false, true, true, false, true, false, false, false, false, false, false, false, false] rfl rfl (by kernel_rfl) (fun _ _ _ h => h) (Or.inl ⟨by rfl, ?_⟩) hHeld ?_ ?_
      rotate_left
      ·rintro w' ⟨s0, s1, s2, s3, s4, s5⟩
       go_simp
       with_reducible rfl
      rotate_left
      ·simp only [Act.put, List.setIfInBounds_toArray, List.set_cons_zero, List.set_cons_succ, i64_w, i32_w]
       rfl
      refine take_ (i := 22) (N := some 161) (v := ?_) (a' := ?_) #[true, true, true, true, true, true, true, true, true, true, true, true, true, true, true, true, true, false, true, true, false, true, true, false, false, false, false, false, false, false] rfl rfl (by kernel_rfl) (fun _ _ _ h => h) (Or.inl ⟨by rfl, ?_⟩) hHeld ?_ ?_
      rotate_left
      ·rintro w' ⟨s0, s1, s2, s3, s4, s5⟩
       go_simp
       with_reducible rfl
      rotate_left
      ·simp only [Act.put, List.setIfInBounds_toArray, List.set_cons_zero, List.set_cons_succ, i64_w, i32_w]
       rfl
      refine one_ (i := 17) (N := some 156) #[true, true, true, true, true, true, true, true, true, true, true, true, true, true, true, true, true, true, true, true, false, true, true, false, false, false, false, false, false, false] rfl rfl (by kernel_rfl) (by decide) (fun K hK => ?_)
      refine value_ (w1 := ?_) (v := ?_) (by rfl) rfl ?_ ?_
      rotate_left 2
      ·go_simp
       constructor
       ·rfl
       ·rfl
      refine hK.out _ _ ⟨(zx0D _), (zx1D _), (zy0D _), (zy1D _), (zt0D _), (zt1D _)⟩ (fun hHeld => ?_)
      clear hK K
      refine norm_ (a' := ?_) ?_ ?_
      rotate_left
      ·show Act.put _ (some 156) _ = _
       simp only [Act.put, List.setIfInBounds_toArray, List.set_cons_zero, List.set_cons_succ, i64_w, i32_w]
       rfl
      refine one_ (i := 20) (N := some 159) #[true, true, true, true, true, true, true, true, true, true, true, true, true, true, true, true, true, true, true, true, true, true, true, false, false, false, false, false, false, false] rfl rfl (by kernel_rfl) (by decide) (fun K hK => ?_)
      have Bi1 : Below W.drew.heap.size W.drew (wD.alloc (.cells #[] 3)) := (BD).alloc (BD).size _
      have FJi0 := Aside0.mk (HF.out.step Bi1)
      have hEi := RowV.empty wD wD.heap.size 3 1 (Nat.le_refl _)
      refine row_append_any (w := (wD.alloc (.cells #[] 3))) (.tmp 156) (.tmp 158) 24 rfl 3 Try.t3 (.int .i64 0) 1 8 Try.underlying24 (by kernel_rfl) rfl rfl rfl (by decide) (by decide) wD.heap.size (.slice (some ⟨wD.heap.size, 0, none⟩) 0 0) 0 [] (by rfl) hEi w.heap.size _ A1.length (iV A1) (by rfl) FJi0.out.a1 (iV_one A1) (by simp only [maxLen]; omega) (by omega) (Nat.le_trans (Nat.le_refl _) (Below.size ((Below.refl _ wD).alloc (Nat.le_refl _) _))) ?_
      rintro vi1 wi1 hRi1 hGi1 ⟨Ai1, ci1, rfl⟩
      have BBi1 : Below W.drew.heap.size W.drew wi1 := below_mid Bi1 hGi1 (fun k hk => Nat.le_trans (Below.size (BD)) (hEi.lt hk).2.1) Bi1.size
      have FJi1 := Aside0.mk (HF.out.step BBi1)
      have K17i1 := Aside0.mk ((BBi1.block g17 l17).trans K17.out)
      have x0i1 := blk_cell FJi1.out.k7 0
      have x1i1 := blk_cell FJi1.out.k7 1
      have y0i1 := blk_cell FJi1.out.k9 0
      have y1i1 := blk_cell FJi1.out.k9 1
      have t0i1 := blk_cell K17i1.out 0
      have t1i1 := blk_cell K17i1.out 1
      simp only [List.getElem?_toArray, List.getElem?_cons_zero, List.getElem?_cons_succ] at x0i1 x1i1 y0i1 y1i1 t0i1 t1i1
      refine hK.out _ _ ⟨x0i1, x1i1, y0i1, y1i1, t0i1, t1i1⟩ (fun hHeld => ?_)
      clear hK K
      refine norm_ (a' := ?_) ?_ ?_
      rotate_left
      ·show Act.put _ (some 159) _ = _
       simp only [Act.put, List.setIfInBounds_toArray, List.set_cons_zero, List.set_cons_succ, i64_w, i32_w]
       rfl
      refine one_ (i := 23) (N := some 162) #[true, true, true, true, true, true, true, true, true, true, true, true, true, true, true, true, true, true, true, true, true, true, true, true, false, false, false, false, false, false] rfl rfl (by kernel_rfl) (by decide) (fun K hK => ?_)
      refine row_append_any (w := wi1) (.tmp 159) (.tmp 161) 24 rfl 3 Try.t3 (.int .i64 0) 1 8 Try.underlying24 (by kernel_rfl) rfl rfl rfl (by decide) (by decide) wD.heap.size (.slice Ai1 (0 + A1.length) ci1) (0 + A1.length) ([] ++ iV A1) (by rfl) hRi1 w.heap.size _ A2.length (iV A2) (by rfl) FJi1.out.a2 (iV_one A2) (by simp only [maxLen]; omega) (by omega) (Nat.le_trans (Below.size ((Below.refl _ wD).alloc (Nat.le_refl _) (.cells #[] 3))) hGi1.size) ?_
      rintro vi2 wi2 hRi2 hGi2 ⟨Ai2, ci2, rfl⟩
      have BBi2 : Below W.drew.heap.size W.drew wi2 := below_mid BBi1 hGi2 (fun k hk => Nat.le_trans (Below.size (BD)) (hRi1.lt hk).2.1) BBi1.size
      have hQi : RowV wi2 wD.heap.size 3 1 (.slice Ai2 (0 + A1.length + A2.length) ci2) AX.length (iV AX) := by
       have e1 : (A1 ++ A2).length = 0 + A1.length + A2.length := by simp
       have e2 : iV (A1 ++ A2) = [] ++ iV A1 ++ iV A2 := by simp [iV]
       rw [HAX.out, e1, e2]
       exact hRi2
      have FJi2 := Aside0.mk (HF.out.step BBi2)
      have K17i2 := Aside0.mk ((BBi2.block g17 l17).trans K17.out)
      have x0i2 := blk_cell FJi2.out.k7 0
      have x1i2 := blk_cell FJi2.out.k7 1
      have y0i2 := blk_cell FJi2.out.k9 0
      have y1i2 := blk_cell FJi2.out.k9 1
      have t0i2 := blk_cell K17i2.out 0
      have t1i2 := blk_cell K17i2.out 1
      simp only [List.getElem?_toArray, List.getElem?_cons_zero, List.getElem?_cons_succ] at x0i2 x1i2 y0i2 y1i2 t0i2 t1i2
      refine hK.out _ _ ⟨x0i2, x1i2, y0i2, y1i2, t0i2, t1i2⟩ (fun hHeld => ?_)
      clear hK K
      refine norm_ (a' := ?_) ?_ ?_
      rotate_left
      ·show Act.put _ (some 162) _ = _
       simp only [Act.put, List.setIfInBounds_toArray, List.set_cons_zero, List.set_cons_succ, i64_w, i32_w]
       rfl
      refine one_ (i := 24) (N := some 163) #[true, true, true, true, true, true, true, true, true, true, true, true, true, true, true, true, true, true, true, true, true, true, true, true, true, false, false, false, false, false] rfl rfl (by kernel_rfl) (by decide) (fun K hK => ?_)
      refine goes_ Try.func11 (by kernel_rfl) rfl #[.slice D3 AX.length d3, .slice Ai2 (0 + A1.length + A2.length) ci2] (by rfl) rfl rfl (by simp only [List.map_toArray, List.map_cons, List.map_nil]; rfl) ?_
      with_reducible refine (ints_same wi2 _ _ _ _ AX (HA3.out.below BBi2) hQi).mono ?_
      rintro e wG ⟨rfl, hbG⟩
      refine ⟨_, rfl, ?_⟩
      have BG : Below W.drew.heap.size W.drew wG := BBi2.trans (hbG.mono BBi2.size)
      have FJG := Aside0.mk (HF.out.step BG)
      have K17G := Aside0.mk ((BG.block g17 l17).trans K17.out)
      have x0G := blk_cell FJG.out.k7 0
      have x1G := blk_cell FJG.out.k7 1
      have y0G := blk_cell FJG.out.k9 0
      have y1G := blk_cell FJG.out.k9 1
      have t0G := blk_cell K17G.out 0
      have t1G := blk_cell K17G.out 1
      simp only [List.getElem?_toArray, List.getElem?_cons_zero, List.getElem?_cons_succ] at x0G x1G y0G y1G t0G t1G
      refine hK.out _ _ ⟨x0G, x1G, y0G, y1G, t0G, t1G⟩ (fun hHeld => ?_)
      clear hK K
      refine norm_ (a' := ?_) ?_ ?_
      rotate_left
      ·show Act.put _ (some 163) _ = _
       simp only [Act.put, List.setIfInBounds_toArray, List.set_cons_zero, List.set_cons_succ, i64_w, i32_w]
       rfl
      refine pure_ (i := 25) (N := some 164) (v := ?_) (a' := ?_) #[true, true, true, true, true, true, true, true, true, true, true, true, true, true, true, true, true, true, true, true, true, true, true, true, true, true, false, false, false, false] rfl rfl (by kernel_rfl) (fun _ _ _ h => h) (Or.inl ⟨by rfl, ?_⟩) ?_ ?_
      rotate_left
      ·intro w'
       go_simp
       with_reducible rfl
      rotate_left
      ·simp only [Act.put, List.setIfInBounds_toArray, List.set_cons_zero, List.set_cons_succ, i64_w, i32_w]
       rfl
      refine pure_ (i := 26) (N := some 165) (v := ?_) (a' := ?_) #[true, true, true, true, true, true, true, true, true, true, true, true, true, true, true, true, true, true, true, true, true, true, true, true, true, true, true, false, false, false] rfl rfl (by kernel_rfl) (fun _ _ _ h => h) (Or.inl ⟨by rfl, ?_⟩) ?_ ?_
      rotate_left
      ·intro w'
       go_simp
       with_reducible rfl
      rotate_left
      ·simp only [Act.put, List.setIfInBounds_toArray, List.set_cons_zero, List.set_cons_succ, i64_w, i32_w]
       rfl
      refine one_ (i := 27) (N := some 166) #[true, true, true, true, true, true, true, true, true, true, true, true, true, true, true, true, true, true, true, true, true, true, true, true, true, true, true, true, false, false] rfl rfl (by kernel_rfl) (by decide) (fun K hK => ?_)
      refine goes_ Try.func7 (by kernel_rfl) rfl #[] (by rfl) rfl rfl (by simp only [List.map_toArray, List.map_nil]) ?_
      with_reducible refine (wakesF_any wG).mono ?_
      rintro e wH ⟨rfl, hbH⟩
      refine ⟨_, rfl, ?_⟩
      have BH : Below W.drew.heap.size W.drew wH := BG.trans (hbH.mono BG.size)
      have HEND := Aside0.mk (HF.out.bel.trans (BH.mono HF.out.bel.size))
      have FJH := Aside0.mk (HF.out.step BH)
      have K17H := Aside0.mk ((BH.block g17 l17).trans K17.out)
      have x0H := blk_cell FJH.out.k7 0
      have x1H := blk_cell FJH.out.k7 1
      have y0H := blk_cell FJH.out.k9 0
      have y1H := blk_cell FJH.out.k9 1
      have t0H := blk_cell K17H.out 0
      have t1H := blk_cell K17H.out 1
      simp only [List.getElem?_toArray, List.getElem?_cons_zero, List.getElem?_cons_succ] at x0H x1H y0H y1H t0H t1H
      refine hK.out _ _ ⟨x0H, x1H, y0H, y1H, t0H, t1H⟩ (fun hHeld => ?_)
      clear hK K
      refine norm_ (a' := ?_) ?_ ?_
      rotate_left
      ·show Act.put _ (some 166) _ = _
       simp only [Act.put, List.setIfInBounds_toArray, List.set_cons_zero, List.set_cons_succ, i64_w, i32_w]
       rfl
      refine pure_ (i := 28) (N := some 167) (v := ?_) (a' := ?_) #[true, true, true, true, true, true, true, true, true, true, true, true, true, true, true, true, true, true, true, true, true, true, true, true, true, true, true, true, true, false] rfl rfl (by kernel_rfl) (fun _ _ _ h => h) (Or.inl ⟨by rfl, ?_⟩) ?_ ?_
      rotate_left
      ·intro w'
       go_simp
       with_reducible rfl
      rotate_left
      ·simp only [Act.put, List.setIfInBounds_toArray, List.set_cons_zero, List.set_cons_succ, i64_w, i32_w]
       rfl
      refine pure_ (i := 29) (N := some 6) (v := ?_) (a' := ?_) #[true, true, true, true, true, true, true, true, true, true, true, true, true, true, true, true, true, true, true, true, true, true, true, true, true, true, true, true, true, true] rfl rfl (by kernel_rfl) (fun _ _ _ h => h) (Or.inl ⟨by rfl, ?_⟩) ?_ ?_
      rotate_left
      ·intro w'
       go_simp
       with_reducible rfl
      rotate_left
      ·simp only [Act.put, List.setIfInBounds_toArray, List.set_cons_zero, List.set_cons_succ, i64_w, i32_w]
       rfl
      refine done_ (by kernel_rfl) ?_
      go_wp2_with fail
      go_ret
      exact ⟨rfl, HEND.out⟩
   ·have pK : (K != 0) = true := by simp [zK]
    go_wp2_with fail
    refine (wakesF_any _).mono ?_
    rintro e wz ⟨rfl, hb⟩
    have HBz := Aside0.mk (HF.out.bel.trans (hb.mono HF.out.bel.size))
    clear hb
    go_wp2_with fail
    go_ret
    exact ⟨rfl, HBz.out⟩
  ·have p2 : (E2 != 0) = true := by simp [z2]
   have p2' : (E2 == 0) = false := by simp [z2]
   have hz : (feedP t near).1 = ([], []) := feedP_errs (by rw [← HP2.out]; exact z2)
   rw [← HP2.out] at hz
   injection hz with hz1 hz2
   have e1 : R2.length = 0 := by rw [hz1]; rfl
   have e2 : A2.length = 0 := by rw [hz2]; rfl
   rw [e1] at y0
   rw [e2] at y1
   clear hz1 hz2 e1 e2
   go_wp2_with fail
   refine (wakesF_any _).mono ?_
   rintro e wz ⟨rfl, hb⟩
   have HBz := Aside0.mk (HF.out.bel.trans (hb.mono HF.out.bel.size))
   clear hb
   go_wp2_with fail
   go_ret
   exact ⟨rfl, HBz.out⟩
 ·have p1 : (E1 != 0) = true := by simp [z1]
  have p1' : (E1 == 0) = false := by simp [z1]
  have hz : (feedP s near).1 = ([], []) := feedP_errs (by rw [← HP1.out]; exact z1)
  rw [← HP1.out] at hz
  injection hz with hz1 hz2
  have e1 : R1.length = 0 := by rw [hz1]; rfl
  have e2 : A1.length = 0 := by rw [hz2]; rfl
  rw [e1] at x0
  rw [e2] at x1
  clear hz1 hz2 e1 e2
  by_cases z2 : E2 = 0
  ·have p2' : (E2 == 0) = true := by simp [z2]
   go_wp2_with fail
   refine (wakesF_any _).mono ?_
   rintro e wz ⟨rfl, hb⟩
   have HBz := Aside0.mk (HF.out.bel.trans (hb.mono HF.out.bel.size))
   clear hb
   go_wp2_with fail
   go_ret
   exact ⟨rfl, HBz.out⟩
  ·have p2' : (E2 == 0) = false := by simp [z2]
   have hz : (feedP t near).1 = ([], []) := feedP_errs (by rw [← HP2.out]; exact z2)
   rw [← HP2.out] at hz
   injection hz with hz1 hz2
   have e1 : R2.length = 0 := by rw [hz1]; rfl
   have e2 : A2.length = 0 := by rw [hz2]; rfl
   rw [e1] at y0
   rw [e2] at y1
   clear hz1 hz2 e1 e2
   go_wp2_with fail
   refine (wakesF_any _).mono ?_
   rintro e wz ⟨rfl, hb⟩
   have HBz := Aside0.mk (HF.out.bel.trans (hb.mono HF.out.bel.size))
   clear hb
   go_wp2_with fail
   go_ret
   exact ⟨rfl, HBz.out⟩
end Go.Proofs.Ytgakmnholegbgaa.B
end
section
namespace Go.Proofs.Ytgakmnholegbgaa.B
open Go.RowKit Go.Proofs.YtgakmnholegbgaaW.PrintWords Go.Proofs.YtgakmnholegbgaaW.PrintLast Go.Proofs.YtgakmnholegbgaaW.PrintMore
set_option linter.unusedVariables false
set_option linter.unusedSimpArgs false
def abcd : ByteArray := ⟨#[97, 98, 99, 100]⟩
def otherP (n : Int) : P3 := (n % 32, 200 + n % 5, abcd)
theorem otherP_ok (n : Int) (h : 0 ≤ n ∧ n ≤ 255) : partOk (otherP n) = true ∧ (otherP n).2.1 ≠ 205 ∧ (otherP n).2.2.size = 4 := by
 refine ⟨(partOk_iff _).2 ?_, ?_, rfl⟩
 ·unfold otherP
  dsimp only
  have hs : abcd.size = 4 := rfl
  omega
 ·unfold otherP
  dsimp only
  omega
theorem row_new (w : World) (l : List P3) (n : Nat) (hn : n = l.length) (hm : n ≤ maxLen) (cs : Array Value) (hc : cs = (partV l).toArray) : RowV (w.alloc (.cells cs 56)) w.heap.size 56 3 (.slice (some ⟨w.heap.size, 0, none⟩) n n) n (partV l) := by
 subst hc hn
 have hb := blk_new w (.cells (partV l).toArray 56)
 refine ⟨partV_length l, .inr ⟨w.heap.size, 0, l.length, rfl, Nat.le_refl _, by simp only [World.shape?, hb]; rfl, Nat.le_refl _, hm, fun j u hj => ?_, fun j hj => ⟨?_, ?_⟩⟩⟩
 ·rw [blk_cell hb]
  simpa using hj
 ·rw [blk_cell hb, Nat.zero_add, List.getElem?_toArray, List.getElem?_eq_getElem (by rw [partV_length]; exact hj)]
  rfl
 ·exact blk_frozen hb _
set_option maxHeartbeats 16000000 in
set_option maxRecDepth 100000 in
theorem feedOthers_any (s : ByteArray) (near n : Int) (w : World) (hs : s.size ≤ 140737488351232) (hn : I64 near) (hn8 : 0 ≤ n ∧ n ≤ 255) : Calls Try.prog 6 #[.string s, .int .i64 near, .int .u8 n] w fun e w' => e = .returned (.bool true) ∧ Below w.heap.size w w' := by
 obtain ⟨n0, n1⟩ := hn8
 by_cases h : 30000 < s.size
 ·have d1 : decide (30000 < (s.size : Int)) = true := decide_eq_true (by omega)
  go_enter Try.func6, Try.ntmps6
  go_wp2_with fail
  refine (wakesF_any w).mono ?_
  rintro e wz ⟨rfl, hb⟩
  have HBz := Aside0.mk hb
  clear hb
  go_wp2_with fail
  go_ret
  exact ⟨rfl, HBz.out⟩
 have d1 : decide (30000 < (s.size : Int)) = false := decide_eq_false (by omega)
 obtain ⟨o1, o2, o3⟩ := otherP_ok n ⟨n0, n1⟩
 have CS := Aside0.mk (fun w => rsplit_anyF s w (by omega))
 unfold SplitPost at CS
 have hll := split_lenF s
 have hz1 := split_sizes s
 obtain ⟨⟨l, E⟩, hSP⟩ : ∃ p, p = splitP s := ⟨_, rfl⟩
 rw [← hSP] at CS hll hz1
 dsimp only at CS hll hz1
 obtain ⟨T0, hT0⟩ : ∃ T, joinP [otherP n, otherP n] = (T, 0) := by
  have hpk : (joinP [otherP n, otherP n]).2 = 0 := by
   unfold joinP
   rw [if_neg (by simp), if_neg, if_neg]
   ·rw [total_cons, total_cons, total_nil]; unfold sizeP; rw [o3]; omega
   ·intro hh
    apply hh
    rw [List.all_eq_true]
    intro x hx
    rcases List.mem_cons.1 hx with rfl | hx
    ·exact o1
    ·rw [List.mem_singleton.1 hx]; exact o1
  exact ⟨_, by rw [← hpk]⟩
 have hF0 := feedP_none (near := near) o2 (split_join _ _ hT0).1
 have hT0s := joinT_size hT0
 have C0 := Aside0.mk (fun w => read_any_F T0 near w (by omega) hn)
 unfold FeedPost at C0
 rw [hF0] at C0
 dsimp only at C0
 have HSP := Aside0.mk hSP
 have HT0 := Aside0.mk hT0
 have HO := Aside0.mk (And.intro o1 (And.intro o2 o3))
 have HZ1 := Aside0.mk hz1
 have HAB : Aside0 (abcd = { data := #[97, 98, 99, 100] }) := ⟨rfl⟩
 clear hSP hT0 hF0 o1 o2 o3 hz1
 go_enter Try.func6, Try.ntmps6
 go_wp2_with fail
 refine (CS.out w).mono ?_
 rintro e w1 ⟨vP, rfl, hP, hb⟩
 obtain ⟨P1, p1, rfl, -, -⟩ := hP.form
 have HB := Aside0.mk hb
 have HPl := Aside0.mk hP
 clear hb hP CS
 go_upto_region 4 with fail
 have e32 : Int.tmod n 32 = n % 32 := Int.tmod_eq_emod_of_nonneg n0
 have K9 := Aside0.mk (blk_new w1 (.cells #[.int .i64 (n % 32), .int .i64 (200 + n % 5), .string abcd] 56))
 replace HPl := Aside0.mk (HPl.out.alloc (.cells #[.int .i64 (n % 32), .int .i64 (200 + n % 5), .string abcd] 56))
 replace HB := Aside0.mk (HB.out.alloc HB.out.size (.cells #[.int .i64 (n % 32), .int .i64 (200 + n % 5), .string abcd] 56))
 clear e32
 go_upto_region 5 with fail
 rw [← HAB.out]
 obtain ⟨g9, hg9⟩ : ∃ g, g = w1.heap.size := ⟨_, rfl⟩
 rw [← hg9] at K9 ⊢
 clear hg9
 generalize w1.alloc (.cells #[.int .i64 (n % 32), .int .i64 (200 + n % 5), .string abcd] 56) = w2 at *
 have c0 := blk_cell K9.out 0
 have c1 := blk_cell K9.out 1
 have c2 := blk_cell K9.out 2
 simp only [List.getElem?_toArray, List.getElem?_cons_zero, List.getElem?_cons_succ] at c0 c1 c2
 have HR2 := Aside0.mk (row_new w2 [otherP n, otherP n] 2 rfl (by decide) #[.int .i64 (n % 32), .int .i64 (200 + n % 5), .string abcd, .int .i64 (n % 32), .int .i64 (200 + n % 5), .string abcd] rfl)
 have CJ := Aside0.mk (rjoin_any (some ⟨w2.heap.size, 0, none⟩) 2 [otherP n, otherP n] (w2.alloc (.cells #[.int .i64 (n % 32), .int .i64 (200 + n % 5), .string abcd, .int .i64 (n % 32), .int .i64 (200 + n % 5), .string abcd] 56)) (by simp) (PartsAt.of_row HR2.out rfl).2.1 (by
  intro x hx
  have : x = otherP n := by simpa using hx
  rw [this, HO.out.2.2]
  decide))
 rw [HT0.out] at CJ
 go_wp2_with fail
 refine CJ.out.mono ?_
 rintro e w3 ⟨rfl, hb⟩
 have hB23 : Below w2.heap.size w2 w3 := ((Below.refl w2.heap.size w2).alloc (Nat.le_refl _) (.cells #[.int .i64 (n % 32), .int .i64 (200 + n % 5), .string abcd, .int .i64 (n % 32), .int .i64 (200 + n % 5), .string abcd] 56)).trans (hb.mono (by simp))
 replace K9 := Aside0.mk ((hB23.block g9 (blk_lt K9.out)).trans K9.out)
 replace HPl := Aside0.mk (HPl.out.below hB23)
 replace HB := Aside0.mk (HB.out.trans (hB23.mono HB.out.size))
 clear hb hB23 CJ HR2 c0 c1 c2
 go_wp2_with fail
 refine (C0.out w3).mono ?_
 rintro e w4 ⟨vR, vA, rfl, hR, hA, hb⟩
 obtain ⟨B0, c0, rfl, -, -⟩ := hR.form
 obtain ⟨D0, d0, rfl, -, -⟩ := hA.form
 have hB34 : Below w3.heap.size w3 (w4.alloc (.cells #[.slice B0 0 c0, .slice D0 0 d0] 26)) := hb.alloc hb.size (.cells #[.slice B0 0 c0, .slice D0 0 d0] 26)
 replace K9 := Aside0.mk ((hB34.block g9 (blk_lt K9.out)).trans K9.out)
 replace HPl := Aside0.mk (HPl.out.below hB34)
 replace HB := Aside0.mk (HB.out.trans (hB34.mono HB.out.size))
 clear hb hB34 hR hA C0
 simp only [List.length_nil] at *
 go_upto_region 9 with fail
 generalize w4.alloc (.cells #[.slice B0 0 c0, .slice D0 0 d0] 26) = w5 at *
 by_cases z : E = 0
 ·have q1 : (E != 0) = false := by simp [z]
  have hl : splitP s = (l, 0) := by rw [← HSP.out, z]
  obtain ⟨j1, -⟩ := join_others (o := otherP n) HO.out.1 HO.out.2.2 hl (by omega)
  obtain ⟨U, hU⟩ : ∃ U, joinP (otherP n :: (l ++ [otherP n])) = (U, 0) := ⟨_, by rw [← j1]⟩
  have hUs := joinT_size hU
  have hFU := feedP_among (near := near) HO.out.2.1 hl (split_join _ _ hU).1
  have C1 := Aside0.mk (fun w => read_any_F s near w (by omega) hn)
  have C2 := Aside0.mk (fun w => read_any_F U near w (by omega) hn)
  unfold FeedPost at C1 C2
  rw [hFU] at C2
  obtain ⟨⟨⟨R, A⟩, F⟩, hP⟩ : ∃ f, f = feedP s near := ⟨_, rfl⟩
  rw [← hP] at C1 C2
  dsimp only at C1 C2
  have HP := Aside0.mk hP
  obtain ⟨X, hX⟩ : ∃ X, X = otherP n :: (l ++ [otherP n]) := ⟨_, rfl⟩
  have hXl : X.length = 1 + l.length + 1 := by rw [hX]; simp; omega
  have hXV : partV X = (partV [otherP n] ++ partV l) ++ partV [otherP n] := by rw [hX, ← partV_app, ← partV_app]; rfl
  rw [← hX] at hU
  have HXZ : Aside0 (∀ x ∈ X, x.2.2.size ≤ 9223372036854775807) := ⟨fun x hx => by
   rw [hX] at hx
   rcases List.mem_cons.1 hx with rfl | hx
   ·rw [HO.out.2.2]; decide
   rcases List.mem_append.1 hx with hx | hx
   ·exact Nat.le_trans (HZ1.out x hx) (by decide)
   ·rw [List.mem_singleton.1 hx, HO.out.2.2]; decide⟩
  have HXL := Aside0.mk hXl
  have HXV := Aside0.mk hXV
  have HU := Aside0.mk hU
  have qF : (F == F) = true := by simp
  clear hl j1 hU hFU hP hX hXl hXV z
  go_wp2_with fail
  replace K9 := Aside0.mk (show w5.drew.heap[g9]? = some (.cells #[.int .i64 (n % 32), .int .i64 (200 + n % 5), .string abcd] 56 (0, 0)) from K9.out)
  have c0 := blk_cell (w := w5) K9.out 0
  have c1 := blk_cell (w := w5) K9.out 1
  have c2 := blk_cell (w := w5) K9.out 2
  simp only [List.getElem?_toArray, List.getElem?_cons_zero, List.getElem?_cons_succ] at c0 c1 c2
  have l9 := blk_lt (w := w5) K9.out
  replace HPl := Aside0.mk (HPl.out.below (Below.refl w5.heap.size w5).drew)
  replace HB := Aside0.mk (HB.out.trans ((Below.refl w5.heap.size w5).drew.mono HB.out.size))
  refine start_ (n := 13) (S := fun w' => w'.cell? ⟨g9, 0, none⟩ = some (.int .i64 (n % 32)) ∧ w'.cell? ⟨g9, 1, none⟩ = some (.int .i64 (200 + n % 5)) ∧ w'.cell? ⟨g9, 2, none⟩ = some (.string abcd)) (ds := [7]) #[false, false, false, false, false, false, false, false, false, false, false, false, false] (by kernel_rfl) rfl rfl ⟨c0, c1, c2⟩ (fun hHeld => ?_)
  refine pure_ (i := 2) (N := some 58) (v := ?_) (a' := ?_) #[false, false, true, false, false, false, false, false, false, false, false, false, false] rfl rfl (by kernel_rfl) (fun _ _ _ h => h) (Or.inl ⟨by rfl, ?_⟩) ?_ ?_
  rotate_left
  ·intro w'
   go_simp
   with_reducible rfl
  rotate_left
  ·simp only [Act.put, List.setIfInBounds_toArray, List.set_cons_zero, List.set_cons_succ, i64_w, i32_w]
   rfl
  refine take_ (i := 0) (N := some 56) (v := ?_) (a' := ?_) #[true, false, true, false, false, false, false, false, false, false, false, false, false] rfl rfl (by kernel_rfl) (fun _ _ _ h => h) (Or.inl ⟨by rfl, ?_⟩) hHeld ?_ ?_
  rotate_left
  ·rintro w' ⟨s0, s1, s2⟩
   go_simp
   with_reducible rfl
  rotate_left
  ·simp only [Act.put, List.setIfInBounds_toArray, List.set_cons_zero, List.set_cons_succ, i64_w, i32_w]
   rfl
  refine take_ (i := 4) (N := some 60) (v := ?_) (a' := ?_) #[true, false, true, false, true, false, false, false, false, false, false, false, false] rfl rfl (by kernel_rfl) (fun _ _ _ h => h) (Or.inl ⟨by rfl, ?_⟩) hHeld ?_ ?_
  rotate_left
  ·rintro w' ⟨s0, s1, s2⟩
   go_simp
   with_reducible rfl
  rotate_left
  ·simp only [Act.put, List.setIfInBounds_toArray, List.set_cons_zero, List.set_cons_succ, i64_w, i32_w]
   rfl
  refine join_ (σ := Nat × (Option Addr × Nat) × Nat) 7 #[true, true, true, true, true, true, false, false, false, false, false, false, false] (fun s => [(57, .slice (some ⟨s.1, 0, none⟩) 1 1), (59, .slice s.2.1.1 (1 + l.length) s.2.1.2), (61, .slice (some ⟨s.2.2, 0, none⟩) 1 1)]) (fun s w' => RowV w' w5.heap.size 56 3 (.slice s.2.1.1 (1 + l.length) s.2.1.2) (1 + l.length) (partV [otherP n] ++ partV l) ∧ RowV w' w5.heap.size 56 3 (.slice (some ⟨s.2.2, 0, none⟩) 1 1) 1 (partV [otherP n]) ∧ Below w5.drew.heap.size w5.drew w' ∧ w'.cell? ⟨g9, 0, none⟩ = some (.int .i64 (n % 32)) ∧ w'.cell? ⟨g9, 1, none⟩ = some (.int .i64 (200 + n % 5)) ∧ w'.cell? ⟨g9, 2, none⟩ = some (.string abcd)) ?_ ?_
  rotate_left
  ·intro hCont
   refine two_ (i := 1) (j := 5) (Ni := some 57) (Nj := some 61) #[true, true, true, false, true, false, false, false, false, false, false, false, false] #[true, false, true, false, true, true, false, false, false, false, false, false, false] rfl rfl rfl rfl (by kernel_rfl) (by decide) (by decide) (fun K hK => ?_) (fun K hK => ?_)
   ·skip
    refine value_ (w1 := ?_) (v := ?_) (by rfl) rfl ?_ ?_
    rotate_left 2
    ·go_simp
     constructor
     ·rfl
     ·rfl
    have BB1 : Below w5.drew.heap.size w5.drew (w5.drew.alloc (.cells #[.int .i64 (n % 32), .int .i64 (200 + n % 5), .string abcd] 56)) := (Below.refl w5.drew.heap.size w5.drew).alloc ((Below.refl w5.drew.heap.size w5.drew)).size (.cells #[.int .i64 (n % 32), .int .i64 (200 + n % 5), .string abcd] 56)
    have N1_1 := row_new w5.drew [otherP n] 1 rfl (by decide) #[.int .i64 (n % 32), .int .i64 (200 + n % 5), .string abcd] rfl
    have K1 := (BB1.block g9 l9).trans K9.out
    have c0_1 := blk_cell K1 0
    have c1_1 := blk_cell K1 1
    have c2_1 := blk_cell K1 2
    simp only [List.getElem?_toArray, List.getElem?_cons_zero, List.getElem?_cons_succ] at c0_1 c1_1 c2_1
    refine hK.out _ _ ⟨c0_1, c1_1, c2_1⟩ (fun hHeld => ?_)
    clear hK K
    refine norm_ (a' := ?_) ?_ ?_
    rotate_left
    ·show Act.put _ (some 57) _ = _
     simp only [Act.put, List.setIfInBounds_toArray, List.set_cons_zero, List.set_cons_succ, i64_w, i32_w]
     rfl
    refine two_ (i := 3) (j := 5) (Ni := some 59) (Nj := some 61) #[true, true, true, true, true, false, false, false, false, false, false, false, false] #[true, true, true, false, true, true, false, false, false, false, false, false, false] rfl rfl rfl rfl (by kernel_rfl) (by decide) (by decide) (fun K hK => ?_) (fun K hK => ?_)
    ·skip
     refine row_append_any (w := (w5.drew.alloc (.cells #[.int .i64 (n % 32), .int .i64 (200 + n % 5), .string abcd] 56))) (.tmp 57) (.tmp 58) 36 rfl 56 Try.t56 (.agg #[.int .i64 0, .int .i64 0, .string { data := #[] }]) 3 32 Try.underlying36 (by kernel_rfl) rfl rfl rfl (by decide) (by decide) _ _ 1 (partV [otherP n]) (by rfl) N1_1 w.heap.size (.slice P1 l.length p1) l.length (partV l) (by rfl) (HPl.out.below BB1) (partV_oneC l) (by simp only [maxLen]; omega) (by omega) (Nat.le_of_lt (N1_1.lt rfl).1) ?_
     rintro v3_ w3_ R3_13 G3_ ⟨A3_, c3_, rfl⟩
     have BB13 : Below w5.drew.heap.size w5.drew w3_ := below_mid BB1 G3_ (fun k hk => Nat.le_trans (Nat.le_refl _) (N1_1.lt hk).2.1) (BB1).size
     have K13 := (BB13.block g9 l9).trans K9.out
     have c0_13 := blk_cell K13 0
     have c1_13 := blk_cell K13 1
     have c2_13 := blk_cell K13 2
     simp only [List.getElem?_toArray, List.getElem?_cons_zero, List.getElem?_cons_succ] at c0_13 c1_13 c2_13
     refine hK.out _ _ ⟨c0_13, c1_13, c2_13⟩ (fun hHeld => ?_)
     clear hK K
     refine norm_ (a' := ?_) ?_ ?_
     rotate_left
     ·show Act.put _ (some 59) _ = _
      simp only [Act.put, List.setIfInBounds_toArray, List.set_cons_zero, List.set_cons_succ, i64_w, i32_w]
      rfl
     refine one_ (i := 5) (N := some 61) #[true, true, true, true, true, true, false, false, false, false, false, false, false] rfl rfl (by kernel_rfl) (by decide) (fun K hK => ?_)
     refine value_ (w1 := ?_) (v := ?_) (by rfl) rfl ?_ ?_
     rotate_left 2
     ·go_simp
      constructor
      ·rfl
      ·rfl
     have BB135 : Below w5.drew.heap.size w5.drew (w3_.alloc (.cells #[.int .i64 (n % 32), .int .i64 (200 + n % 5), .string abcd] 56)) := BB13.alloc (BB13).size (.cells #[.int .i64 (n % 32), .int .i64 (200 + n % 5), .string abcd] 56)
     have N5_135 := row_new w3_ [otherP n] 1 rfl (by decide) #[.int .i64 (n % 32), .int .i64 (200 + n % 5), .string abcd] rfl
     have R3_135 := R3_13.alloc (.cells #[.int .i64 (n % 32), .int .i64 (200 + n % 5), .string abcd] 56)
     have K135 := (BB135.block g9 l9).trans K9.out
     have c0_135 := blk_cell K135 0
     have c1_135 := blk_cell K135 1
     have c2_135 := blk_cell K135 2
     simp only [List.getElem?_toArray, List.getElem?_cons_zero, List.getElem?_cons_succ] at c0_135 c1_135 c2_135
     refine hK.out _ _ ⟨c0_135, c1_135, c2_135⟩ (fun hHeld => ?_)
     clear hK K
     refine norm_ (a' := ?_) ?_ ?_
     rotate_left
     ·show Act.put _ (some 61) _ = _
      simp only [Act.put, List.setIfInBounds_toArray, List.set_cons_zero, List.set_cons_succ, i64_w, i32_w]
      rfl
     exact norm_ (by simp only [putAll, Act.put, List.setIfInBounds_toArray, List.set_cons_zero, List.set_cons_succ]) (hCont (w5.heap.size, (A3_, c3_), w3_.heap.size) _ ⟨R3_135.low (by simp), N5_135.low BB13.size, BB135, c0_135, c1_135, c2_135⟩)
    ·skip
     refine value_ (w1 := ?_) (v := ?_) (by rfl) rfl ?_ ?_
     rotate_left 2
     ·go_simp
      constructor
      ·rfl
      ·rfl
     have BB15 : Below w5.drew.heap.size w5.drew ((w5.drew.alloc (.cells #[.int .i64 (n % 32), .int .i64 (200 + n % 5), .string abcd] 56)).alloc (.cells #[.int .i64 (n % 32), .int .i64 (200 + n % 5), .string abcd] 56)) := BB1.alloc (BB1).size (.cells #[.int .i64 (n % 32), .int .i64 (200 + n % 5), .string abcd] 56)
     have N5_15 := row_new (w5.drew.alloc (.cells #[.int .i64 (n % 32), .int .i64 (200 + n % 5), .string abcd] 56)) [otherP n] 1 rfl (by decide) #[.int .i64 (n % 32), .int .i64 (200 + n % 5), .string abcd] rfl
     rw [show (w5.drew.alloc (.cells #[.int .i64 (n % 32), .int .i64 (200 + n % 5), .string abcd] 56)).heap.size = w5.heap.size + 1 by simp] at N5_15
     have N1_15 := N1_1.alloc (.cells #[.int .i64 (n % 32), .int .i64 (200 + n % 5), .string abcd] 56)
     have K15 := (BB15.block g9 l9).trans K9.out
     have c0_15 := blk_cell K15 0
     have c1_15 := blk_cell K15 1
     have c2_15 := blk_cell K15 2
     simp only [List.getElem?_toArray, List.getElem?_cons_zero, List.getElem?_cons_succ] at c0_15 c1_15 c2_15
     refine hK.out _ _ ⟨c0_15, c1_15, c2_15⟩ (fun hHeld => ?_)
     clear hK K
     refine norm_ (a' := ?_) ?_ ?_
     rotate_left
     ·show Act.put _ (some 61) _ = _
      simp only [Act.put, List.setIfInBounds_toArray, List.set_cons_zero, List.set_cons_succ, i64_w, i32_w]
      rfl
     refine one_ (i := 3) (N := some 59) #[true, true, true, true, true, true, false, false, false, false, false, false, false] rfl rfl (by kernel_rfl) (by decide) (fun K hK => ?_)
     refine row_append_any (w := ((w5.drew.alloc (.cells #[.int .i64 (n % 32), .int .i64 (200 + n % 5), .string abcd] 56)).alloc (.cells #[.int .i64 (n % 32), .int .i64 (200 + n % 5), .string abcd] 56))) (.tmp 57) (.tmp 58) 36 rfl 56 Try.t56 (.agg #[.int .i64 0, .int .i64 0, .string { data := #[] }]) 3 32 Try.underlying36 (by kernel_rfl) rfl rfl rfl (by decide) (by decide) _ _ 1 (partV [otherP n]) (by rfl) N1_15 w.heap.size (.slice P1 l.length p1) l.length (partV l) (by rfl) (HPl.out.below BB15) (partV_oneC l) (by simp only [maxLen]; omega) (by omega) (Nat.le_of_lt (N1_15.lt rfl).1) ?_
     rintro v3_ w3_ R3_153 G3_ ⟨A3_, c3_, rfl⟩
     have BB153 : Below w5.drew.heap.size w5.drew w3_ := below_mid BB15 G3_ (fun k hk => Nat.le_trans (Nat.le_refl _) (N1_15.lt hk).2.1) (BB15).size
     have N5_153 : RowV w3_ (w5.heap.size + 1) 56 3 _ 1 (partV [otherP n]) := N5_15.keep (fun k hk _ _ => G3_.block k (N5_15.lt hk).1 (fun e => by have a := hk; have b := e; simp [Value.ownBlock] at a b; omega))
     have K153 := (BB153.block g9 l9).trans K9.out
     have c0_153 := blk_cell K153 0
     have c1_153 := blk_cell K153 1
     have c2_153 := blk_cell K153 2
     simp only [List.getElem?_toArray, List.getElem?_cons_zero, List.getElem?_cons_succ] at c0_153 c1_153 c2_153
     refine hK.out _ _ ⟨c0_153, c1_153, c2_153⟩ (fun hHeld => ?_)
     clear hK K
     refine norm_ (a' := ?_) ?_ ?_
     rotate_left
     ·show Act.put _ (some 59) _ = _
      simp only [Act.put, List.setIfInBounds_toArray, List.set_cons_zero, List.set_cons_succ, i64_w, i32_w]
      rfl
     exact norm_ (by simp only [putAll, Act.put, List.setIfInBounds_toArray, List.set_cons_zero, List.set_cons_succ]) (hCont (w5.heap.size, (A3_, c3_), (w5.heap.size + 1)) _ ⟨R3_153.low (by simp), N5_153.low (Nat.le_succ _), BB153, c0_153, c1_153, c2_153⟩)
   ·skip
    refine value_ (w1 := ?_) (v := ?_) (by rfl) rfl ?_ ?_
    rotate_left 2
    ·go_simp
     constructor
     ·rfl
     ·rfl
    have BB5 : Below w5.drew.heap.size w5.drew (w5.drew.alloc (.cells #[.int .i64 (n % 32), .int .i64 (200 + n % 5), .string abcd] 56)) := (Below.refl w5.drew.heap.size w5.drew).alloc ((Below.refl w5.drew.heap.size w5.drew)).size (.cells #[.int .i64 (n % 32), .int .i64 (200 + n % 5), .string abcd] 56)
    have N5_5 := row_new w5.drew [otherP n] 1 rfl (by decide) #[.int .i64 (n % 32), .int .i64 (200 + n % 5), .string abcd] rfl
    have K5 := (BB5.block g9 l9).trans K9.out
    have c0_5 := blk_cell K5 0
    have c1_5 := blk_cell K5 1
    have c2_5 := blk_cell K5 2
    simp only [List.getElem?_toArray, List.getElem?_cons_zero, List.getElem?_cons_succ] at c0_5 c1_5 c2_5
    refine hK.out _ _ ⟨c0_5, c1_5, c2_5⟩ (fun hHeld => ?_)
    clear hK K
    refine norm_ (a' := ?_) ?_ ?_
    rotate_left
    ·show Act.put _ (some 61) _ = _
     simp only [Act.put, List.setIfInBounds_toArray, List.set_cons_zero, List.set_cons_succ, i64_w, i32_w]
     rfl
    refine one_ (i := 1) (N := some 57) #[true, true, true, false, true, true, false, false, false, false, false, false, false] rfl rfl (by kernel_rfl) (by decide) (fun K hK => ?_)
    refine value_ (w1 := ?_) (v := ?_) (by rfl) rfl ?_ ?_
    rotate_left 2
    ·go_simp
     constructor
     ·rfl
     ·rfl
    have BB51 : Below w5.drew.heap.size w5.drew ((w5.drew.alloc (.cells #[.int .i64 (n % 32), .int .i64 (200 + n % 5), .string abcd] 56)).alloc (.cells #[.int .i64 (n % 32), .int .i64 (200 + n % 5), .string abcd] 56)) := BB5.alloc (BB5).size (.cells #[.int .i64 (n % 32), .int .i64 (200 + n % 5), .string abcd] 56)
    have N1_51 := row_new (w5.drew.alloc (.cells #[.int .i64 (n % 32), .int .i64 (200 + n % 5), .string abcd] 56)) [otherP n] 1 rfl (by decide) #[.int .i64 (n % 32), .int .i64 (200 + n % 5), .string abcd] rfl
    rw [show (w5.drew.alloc (.cells #[.int .i64 (n % 32), .int .i64 (200 + n % 5), .string abcd] 56)).heap.size = w5.heap.size + 1 by simp] at N1_51
    have N5_51 := N5_5.alloc (.cells #[.int .i64 (n % 32), .int .i64 (200 + n % 5), .string abcd] 56)
    have K51 := (BB51.block g9 l9).trans K9.out
    have c0_51 := blk_cell K51 0
    have c1_51 := blk_cell K51 1
    have c2_51 := blk_cell K51 2
    simp only [List.getElem?_toArray, List.getElem?_cons_zero, List.getElem?_cons_succ] at c0_51 c1_51 c2_51
    refine hK.out _ _ ⟨c0_51, c1_51, c2_51⟩ (fun hHeld => ?_)
    clear hK K
    refine norm_ (a' := ?_) ?_ ?_
    rotate_left
    ·show Act.put _ (some 57) _ = _
     simp only [Act.put, List.setIfInBounds_toArray, List.set_cons_zero, List.set_cons_succ, i64_w, i32_w]
     rfl
    refine one_ (i := 3) (N := some 59) #[true, true, true, true, true, true, false, false, false, false, false, false, false] rfl rfl (by kernel_rfl) (by decide) (fun K hK => ?_)
    refine row_append_any (w := ((w5.drew.alloc (.cells #[.int .i64 (n % 32), .int .i64 (200 + n % 5), .string abcd] 56)).alloc (.cells #[.int .i64 (n % 32), .int .i64 (200 + n % 5), .string abcd] 56))) (.tmp 57) (.tmp 58) 36 rfl 56 Try.t56 (.agg #[.int .i64 0, .int .i64 0, .string { data := #[] }]) 3 32 Try.underlying36 (by kernel_rfl) rfl rfl rfl (by decide) (by decide) _ _ 1 (partV [otherP n]) (by rfl) N1_51 w.heap.size (.slice P1 l.length p1) l.length (partV l) (by rfl) (HPl.out.below BB51) (partV_oneC l) (by simp only [maxLen]; omega) (by omega) (Nat.le_of_lt (N1_51.lt rfl).1) ?_
    rintro v3_ w3_ R3_513 G3_ ⟨A3_, c3_, rfl⟩
    have BB513 : Below w5.drew.heap.size w5.drew w3_ := below_mid BB51 G3_ (fun k hk => Nat.le_trans (Nat.le_succ _) (N1_51.lt hk).2.1) (BB51).size
    have N5_513 : RowV w3_ (w5.heap.size) 56 3 _ 1 (partV [otherP n]) := N5_51.keep (fun k hk _ _ => G3_.block k (N5_51.lt hk).1 (fun e => by have a := hk; have b := e; simp [Value.ownBlock] at a b; omega))
    have K513 := (BB513.block g9 l9).trans K9.out
    have c0_513 := blk_cell K513 0
    have c1_513 := blk_cell K513 1
    have c2_513 := blk_cell K513 2
    simp only [List.getElem?_toArray, List.getElem?_cons_zero, List.getElem?_cons_succ] at c0_513 c1_513 c2_513
    refine hK.out _ _ ⟨c0_513, c1_513, c2_513⟩ (fun hHeld => ?_)
    clear hK K
    refine norm_ (a' := ?_) ?_ ?_
    rotate_left
    ·show Act.put _ (some 59) _ = _
     simp only [Act.put, List.setIfInBounds_toArray, List.set_cons_zero, List.set_cons_succ, i64_w, i32_w]
     rfl
    exact norm_ (by simp only [putAll, Act.put, List.setIfInBounds_toArray, List.set_cons_zero, List.set_cons_succ]) (hCont ((w5.heap.size + 1), (A3_, c3_), w5.heap.size) _ ⟨R3_513.low (by simp), N5_513.low (Nat.le_refl _), BB513, c0_513, c1_513, c2_513⟩)
  rintro ⟨g1, ⟨A9, c9⟩, g5⟩ wz ⟨hR59, hN61, hBz, q0, q1_, q2⟩
  dsimp only at hR59 hN61 ⊢
  have hHeld : _ ∧ _ ∧ _ := ⟨q0, q1_, q2⟩
  refine norm_ (a' := ?_) ?_ ?_
  rotate_left
  ·simp only [putAll, Act.put, List.setIfInBounds_toArray, List.set_cons_zero, List.set_cons_succ]
   rfl
  refine one_ (i := 6) (N := some 62) #[true, true, true, true, true, true, true, false, false, false, false, false, false] rfl rfl (by kernel_rfl) (by decide) (fun K hK => ?_)
  refine row_append_any (w := wz) (.tmp 59) (.tmp 61) 36 rfl 56 Try.t56 (.agg #[.int .i64 0, .int .i64 0, .string { data := #[] }]) 3 32 Try.underlying36 (by kernel_rfl) rfl rfl rfl (by decide) (by decide) w5.heap.size (.slice A9 (1 + l.length) c9) (1 + l.length) (partV [otherP n] ++ partV l) (by rfl) hR59 w5.heap.size (.slice (some ⟨g5, 0, none⟩) 1 1) 1 (partV [otherP n]) (by rfl) hN61 (partV_oneC _) (by simp only [maxLen]; omega) (by omega) hBz.size ?_
  rintro v6_ w6_ R6_ G6_ ⟨A6, c6, rfl⟩
  have BB6 : Below w5.drew.heap.size w5.drew w6_ := below_mid hBz G6_ (fun k hk => (hR59.lt hk).2.1) hBz.size
  have R6X : RowV w6_ w5.heap.size 56 3 (.slice A6 (1 + l.length + 1) c6) X.length (partV X) := by rw [HXL.out, HXV.out]; exact R6_
  have CJ2 := rjoin_any A6 c6 X w6_ (by rw [HXL.out]; omega) (PartsAt.of_row R6X rfl).2.1 HXZ.out
  rw [HXL.out, HU.out] at CJ2
  have K6 := (BB6.block g9 l9).trans K9.out
  have e0 := blk_cell K6 0
  have e1 := blk_cell K6 1
  have e2 := blk_cell K6 2
  simp only [List.getElem?_toArray, List.getElem?_cons_zero, List.getElem?_cons_succ] at e0 e1 e2
  refine hK.out _ _ ⟨e0, e1, e2⟩ (fun hHeld => ?_)
  clear hK K
  refine norm_ (a' := ?_) ?_ ?_
  rotate_left
  ·show Act.put _ (some 62) _ = _
   simp only [Act.put, List.setIfInBounds_toArray, List.set_cons_zero, List.set_cons_succ, i64_w, i32_w]
   rfl
  refine last_ (i := 7) (N := some 63) #[true, true, true, true, true, true, true, true, false, false, false, false, false] rfl rfl (by kernel_rfl) (by decide) (fun K hK => ?_)
  refine goes_ Try.func13 (by kernel_rfl) rfl #[.slice A6 (1 + l.length + 1) c6] (by rfl) rfl rfl (by simp only [List.map_toArray, List.map_cons, List.map_nil]; rfl) ?_
  with_reducible refine (CJ2).mono ?_
  rintro e w7 ⟨rfl, hb7⟩
  refine ⟨_, rfl, ?_⟩
  have HBJ := Aside0.mk (HB.out.trans ((BB6.trans (hb7.mono BB6.size)).mono HB.out.size))
  refine hK.out _ _ ?_
  clear hK K
  refine norm_ (a' := ?_) ?_ ?_
  rotate_left
  ·show Act.put _ (some 63) _ = _
   simp only [Act.put, List.setIfInBounds_toArray, List.set_cons_zero, List.set_cons_succ, i64_w, i32_w]
   rfl
  refine pure_ (i := 8) (N := some 55) (v := ?_) (a' := ?_) #[true, true, true, true, true, true, true, true, true, false, false, false, false] rfl rfl (by kernel_rfl) (fun _ _ _ h => h) (Or.inl ⟨by rfl, ?_⟩) ?_ ?_
  rotate_left
  ·intro w'
   go_simp
   with_reducible rfl
  rotate_left
  ·simp only [Act.put, List.setIfInBounds_toArray, List.set_cons_zero, List.set_cons_succ, i64_w, i32_w]
   rfl
  refine pure_ (i := 9) (N := some 64) (v := ?_) (a' := ?_) #[true, true, true, true, true, true, true, true, true, true, false, false, false] rfl rfl (by kernel_rfl) (fun _ _ _ h => h) (Or.inl ⟨by rfl, ?_⟩) ?_ ?_
  rotate_left
  ·intro w'
   go_simp
   with_reducible rfl
  rotate_left
  ·simp only [Act.put, List.setIfInBounds_toArray, List.set_cons_zero, List.set_cons_succ, i64_w, i32_w]
   rfl
  refine pure_ (i := 10) (N := some 65) (v := ?_) (a' := ?_) #[true, true, true, true, true, true, true, true, true, true, true, false, false] rfl rfl (by kernel_rfl) (fun _ _ _ h => h) (Or.inl ⟨by rfl, ?_⟩) ?_ ?_
  rotate_left
  ·intro w'
   go_simp
   with_reducible rfl
  rotate_left
  ·simp only [Act.put, List.setIfInBounds_toArray, List.set_cons_zero, List.set_cons_succ, i64_w, i32_w]
   rfl
  refine pure_ (i := 11) (N := some 14) (v := ?_) (a' := ?_) #[true, true, true, true, true, true, true, true, true, true, true, true, false] rfl rfl (by kernel_rfl) (fun _ _ _ h => h) (Or.inl ⟨by rfl, ?_⟩) ?_ ?_
  rotate_left
  ·intro w'
   go_simp
   with_reducible rfl
  rotate_left
  ·simp only [Act.put, List.setIfInBounds_toArray, List.set_cons_zero, List.set_cons_succ, i64_w, i32_w]
   rfl
  refine pure_ (i := 12) (N := some 15) (v := ?_) (a' := ?_) #[true, true, true, true, true, true, true, true, true, true, true, true, true] rfl rfl (by kernel_rfl) (fun _ _ _ h => h) (Or.inl ⟨by rfl, ?_⟩) ?_ ?_
  rotate_left
  ·intro w'
   go_simp
   with_reducible rfl
  rotate_left
  ·simp only [Act.put, List.setIfInBounds_toArray, List.set_cons_zero, List.set_cons_succ, i64_w, i32_w]
   rfl
  refine done_ (by kernel_rfl) ?_
  try clear hHeld
  go_wp2_with fail
  refine (C1.out w7).mono ?_
  rintro e w8 ⟨vR, vA, rfl, hR, hA, hb8⟩
  obtain ⟨R1, k1, rfl, -, -⟩ := hR.form
  obtain ⟨A1, m1, rfl, -, -⟩ := hA.form
  have HR1 := Aside0.mk (hR.alloc (.cells #[.slice R1 R.length k1, .slice A1 A.length m1] 26))
  have HA1 := Aside0.mk (hA.alloc (.cells #[.slice R1 R.length k1, .slice A1 A.length m1] 26))
  replace HBJ := Aside0.mk (HBJ.out.trans (hb8.mono HBJ.out.size))
  replace HBJ := Aside0.mk (HBJ.out.alloc HBJ.out.size (.cells #[.slice R1 R.length k1, .slice A1 A.length m1] 26))
  have K5 := Aside0.mk (blk_new w8 (.cells #[.slice R1 R.length k1, .slice A1 A.length m1] 26))
  clear hR hA hb8
  go_upto_region 13 with fail
  obtain ⟨g5_, hg5⟩ : ∃ g, g = w8.heap.size := ⟨_, rfl⟩
  rw [← hg5] at K5 ⊢
  clear hg5
  generalize w8.alloc (.cells #[.slice R1 R.length k1, .slice A1 A.length m1] 26) = w9 at *
  go_wp2_with fail
  refine (C2.out w9).mono ?_
  rintro e w10 ⟨vR, vA, rfl, hR, hA, hb3⟩
  obtain ⟨R2, k2, rfl, -, -⟩ := hR.form
  obtain ⟨A2, m2, rfl, -, -⟩ := hA.form
  replace HR1 := Aside0.mk ((HR1.out.below hb3).alloc (.cells #[.slice R2 R.length k2, .slice A2 A.length m2] 26))
  replace HA1 := Aside0.mk ((HA1.out.below hb3).alloc (.cells #[.slice R2 R.length k2, .slice A2 A.length m2] 26))
  have HR2 := Aside0.mk (hR.alloc (.cells #[.slice R2 R.length k2, .slice A2 A.length m2] 26))
  have HA2 := Aside0.mk (hA.alloc (.cells #[.slice R2 R.length k2, .slice A2 A.length m2] 26))
  replace K5 := Aside0.mk (gb_blk (World.grownBy_alloc w10 (.cells #[.slice R2 R.length k2, .slice A2 A.length m2] 26) none) ((hb3.block g5_ (blk_lt K5.out)).trans K5.out) (fun k hk => by cases hk))
  have K7 := Aside0.mk (blk_new w10 (.cells #[.slice R2 R.length k2, .slice A2 A.length m2] 26))
  replace HBJ := Aside0.mk (HBJ.out.trans (hb3.mono HBJ.out.size))
  replace HBJ := Aside0.mk (HBJ.out.alloc HBJ.out.size (.cells #[.slice R2 R.length k2, .slice A2 A.length m2] 26))
  clear hR hA hb3 C1 C2
  go_upto_region 14 with fail
  obtain ⟨g7, hg7⟩ : ∃ g, g = w10.heap.size := ⟨_, rfl⟩
  rw [← hg7] at K7 ⊢
  clear hg7
  generalize w10.alloc (.cells #[.slice R2 R.length k2, .slice A2 A.length m2] 26) = w11 at *
  have x0 := blk_cell K5.out 0
  have y0 := blk_cell K7.out 0
  simp only [List.getElem?_toArray, List.getElem?_cons_zero, List.getElem?_cons_succ] at x0 y0
  go_wp2_with fail
  refine (reports_same w11 _ _ _ _ R HR1.out HR2.out).mono ?_
  rintro e w12 ⟨rfl, hb5⟩
  replace K5 := Aside0.mk ((hb5.block g5_ (blk_lt K5.out)).trans K5.out)
  replace K7 := Aside0.mk ((hb5.block g7 (blk_lt K7.out)).trans K7.out)
  replace HA1 := Aside0.mk (HA1.out.below hb5)
  replace HA2 := Aside0.mk (HA2.out.below hb5)
  replace HBJ := Aside0.mk (HBJ.out.trans (hb5.mono HBJ.out.size))
  clear hb5 x0 y0
  have x1 := blk_cell K5.out 1
  have y1 := blk_cell K7.out 1
  simp only [List.getElem?_toArray, List.getElem?_cons_zero, List.getElem?_cons_succ] at x1 y1
  go_wp2_with fail
  refine (ints_same w12 _ _ _ _ A HA1.out HA2.out).mono ?_
  rintro e w13 ⟨rfl, hb6⟩
  replace HBJ := Aside0.mk (HBJ.out.trans (hb6.mono HBJ.out.size))
  clear hb6 x1 y1
  go_wp2_with fail
  refine (wakesF_any w13).mono ?_
  rintro e w14 ⟨rfl, hb7⟩
  replace HBJ := Aside0.mk (HBJ.out.trans (hb7.mono HBJ.out.size))
  clear hb7
  go_wp2_with fail
  go_ret
  exact ⟨rfl, HBJ.out⟩
 ·have q1 : (E != 0) = true := by simp [z]
  clear z
  go_wp2_with fail
  refine (wakesF_any w5).mono ?_
  rintro e wz ⟨rfl, hb⟩
  have HBz := Aside0.mk (HB.out.trans (hb.mono HB.out.size))
  clear hb
  go_wp2_with fail
  go_ret
  exact ⟨rfl, HBz.out⟩
end Go.Proofs.Ytgakmnholegbgaa.B
end
section
namespace Go.Proofs.Ytgakmnholegbgaa.B
open Go.Joins Go.ChangeShapes Go.WideShapes Go.RowKit Go.Deep
section
variable {H : Type} {enc : TypeId × Value → H} {P : Program} {w : World} {base : Nat} {spare : Nat → Bool} {held : Bool}
theorem open_agg5 {r : Reach} {b0 : Nat} {t : TypeId} {f0 f1 f2 f3 f4 : Field} {v : Value} {d : DataW H} {p : List MemPlace} (hs : P.underlying t = some (.struct #[f0, f1, f2, f3, f4])) (hone : oneCellFields P #[f0, f1, f2, f3, f4] = true) (hC : P.cellsOf t = 5)
  (hv : Value.okWide P w r b0 t v) (h : DataW.Trod enc P w base spare held t v d p) :
  ∃ (v0 v1 v2 v3 v4 : Value) (y0 y1 y2 y3 y4 : DataW H × List MemPlace) (n : Nat), v = .agg #[v0, v1, v2, v3, v4] ∧ d = .agg [y0.1, y1.1, y2.1, y3.1, y4.1] ∧ p = y0.2 ++ (y1.2 ++ (y2.2 ++ (y3.2 ++ y4.2))) ∧
   DataW.trod enc P w base spare held n f0.type [v0] = some y0 ∧ DataW.trod enc P w base spare held n f1.type [v1] = some y1 ∧ DataW.trod enc P w base spare held n f2.type [v2] = some y2 ∧ DataW.trod enc P w base spare held n f3.type [v3] = some y3 ∧ DataW.trod enc P w base spare held n f4.type [v4] = some y4 := by
 obtain ⟨cs, rfl, hsz⟩ := okWide_struct hs hv
 obtain ⟨l⟩ := cs
 match l, hsz.trans hC with
 | [c0, c1, c2, c3, c4], _ =>
  obtain ⟨fuel, hf⟩ := h
  obtain ⟨xs, n, _, hx, _, hlen, hg⟩ := DataW.trod_struct hs hf
  obtain ⟨o0, k0⟩ := hone_of hone 0 f0 rfl
  obtain ⟨o1, k1⟩ := hone_of hone 1 f1 rfl
  obtain ⟨o2, k2⟩ := hone_of hone 2 f2 rfl
  obtain ⟨o3, k3⟩ := hone_of hone 3 f3 rfl
  obtain ⟨o4, k4⟩ := hone_of hone 4 f4 rfl
  match xs, hlen with
  | [y0, y1, y2, y3, y4], _ =>
   simp only [Prod.mk.injEq] at hx
   exact ⟨c0, c1, c2, c3, c4, y0, y1, y2, y3, y4, n, rfl, by simpa using hx.1, by simpa using hx.2, by simpa [Value.cells, o0, k0] using hg 0 f0 rfl, by simpa [Value.cells, o1, k1] using hg 1 f1 rfl, by simpa [Value.cells, o2, k2] using hg 2 f2 rfl, by simpa [Value.cells, o3, k3] using hg 3 f3 rfl, by simpa [Value.cells, o4, k4] using hg 4 f4 rfl⟩
theorem open_agg6 {r : Reach} {b0 : Nat} {t : TypeId} {f0 f1 f2 f3 f4 f5 : Field} {v : Value} {d : DataW H} {p : List MemPlace} (hs : P.underlying t = some (.struct #[f0, f1, f2, f3, f4, f5])) (hone : oneCellFields P #[f0, f1, f2, f3, f4, f5] = true) (hC : P.cellsOf t = 6)
  (hv : Value.okWide P w r b0 t v) (h : DataW.Trod enc P w base spare held t v d p) :
  ∃ (v0 v1 v2 v3 v4 v5 : Value) (y0 y1 y2 y3 y4 y5 : DataW H × List MemPlace) (n : Nat), v = .agg #[v0, v1, v2, v3, v4, v5] ∧ d = .agg [y0.1, y1.1, y2.1, y3.1, y4.1, y5.1] ∧ p = y0.2 ++ (y1.2 ++ (y2.2 ++ (y3.2 ++ (y4.2 ++ y5.2)))) ∧
   DataW.trod enc P w base spare held n f0.type [v0] = some y0 ∧ DataW.trod enc P w base spare held n f1.type [v1] = some y1 ∧ DataW.trod enc P w base spare held n f2.type [v2] = some y2 ∧ DataW.trod enc P w base spare held n f3.type [v3] = some y3 ∧ DataW.trod enc P w base spare held n f4.type [v4] = some y4 ∧ DataW.trod enc P w base spare held n f5.type [v5] = some y5 := by
 obtain ⟨cs, rfl, hsz⟩ := okWide_struct hs hv
 obtain ⟨l⟩ := cs
 match l, hsz.trans hC with
 | [c0, c1, c2, c3, c4, c5], _ =>
  obtain ⟨fuel, hf⟩ := h
  obtain ⟨xs, n, _, hx, _, hlen, hg⟩ := DataW.trod_struct hs hf
  obtain ⟨o0, k0⟩ := hone_of hone 0 f0 rfl
  obtain ⟨o1, k1⟩ := hone_of hone 1 f1 rfl
  obtain ⟨o2, k2⟩ := hone_of hone 2 f2 rfl
  obtain ⟨o3, k3⟩ := hone_of hone 3 f3 rfl
  obtain ⟨o4, k4⟩ := hone_of hone 4 f4 rfl
  obtain ⟨o5, k5⟩ := hone_of hone 5 f5 rfl
  match xs, hlen with
  | [y0, y1, y2, y3, y4, y5], _ =>
   simp only [Prod.mk.injEq] at hx
   exact ⟨c0, c1, c2, c3, c4, c5, y0, y1, y2, y3, y4, y5, n, rfl, by simpa using hx.1, by simpa using hx.2, by simpa [Value.cells, o0, k0] using hg 0 f0 rfl, by simpa [Value.cells, o1, k1] using hg 1 f1 rfl, by simpa [Value.cells, o2, k2] using hg 2 f2 rfl, by simpa [Value.cells, o3, k3] using hg 3 f3 rfl, by simpa [Value.cells, o4, k4] using hg 4 f4 rfl, by simpa [Value.cells, o5, k5] using hg 5 f5 rfl⟩
theorem open_agg7 {r : Reach} {b0 : Nat} {t : TypeId} {f0 f1 f2 f3 f4 f5 f6 : Field} {v : Value} {d : DataW H} {p : List MemPlace} (hs : P.underlying t = some (.struct #[f0, f1, f2, f3, f4, f5, f6])) (hone : oneCellFields P #[f0, f1, f2, f3, f4, f5, f6] = true) (hC : P.cellsOf t = 7)
  (hv : Value.okWide P w r b0 t v) (h : DataW.Trod enc P w base spare held t v d p) :
  ∃ (v0 v1 v2 v3 v4 v5 v6 : Value) (y0 y1 y2 y3 y4 y5 y6 : DataW H × List MemPlace) (n : Nat), v = .agg #[v0, v1, v2, v3, v4, v5, v6] ∧ d = .agg [y0.1, y1.1, y2.1, y3.1, y4.1, y5.1, y6.1] ∧ p = y0.2 ++ (y1.2 ++ (y2.2 ++ (y3.2 ++ (y4.2 ++ (y5.2 ++ y6.2))))) ∧
   DataW.trod enc P w base spare held n f0.type [v0] = some y0 ∧ DataW.trod enc P w base spare held n f1.type [v1] = some y1 ∧ DataW.trod enc P w base spare held n f2.type [v2] = some y2 ∧ DataW.trod enc P w base spare held n f3.type [v3] = some y3 ∧ DataW.trod enc P w base spare held n f4.type [v4] = some y4 ∧ DataW.trod enc P w base spare held n f5.type [v5] = some y5 ∧ DataW.trod enc P w base spare held n f6.type [v6] = some y6 := by
 obtain ⟨cs, rfl, hsz⟩ := okWide_struct hs hv
 obtain ⟨l⟩ := cs
 match l, hsz.trans hC with
 | [c0, c1, c2, c3, c4, c5, c6], _ =>
  obtain ⟨fuel, hf⟩ := h
  obtain ⟨xs, n, _, hx, _, hlen, hg⟩ := DataW.trod_struct hs hf
  obtain ⟨o0, k0⟩ := hone_of hone 0 f0 rfl
  obtain ⟨o1, k1⟩ := hone_of hone 1 f1 rfl
  obtain ⟨o2, k2⟩ := hone_of hone 2 f2 rfl
  obtain ⟨o3, k3⟩ := hone_of hone 3 f3 rfl
  obtain ⟨o4, k4⟩ := hone_of hone 4 f4 rfl
  obtain ⟨o5, k5⟩ := hone_of hone 5 f5 rfl
  obtain ⟨o6, k6⟩ := hone_of hone 6 f6 rfl
  match xs, hlen with
  | [y0, y1, y2, y3, y4, y5, y6], _ =>
   simp only [Prod.mk.injEq] at hx
   exact ⟨c0, c1, c2, c3, c4, c5, c6, y0, y1, y2, y3, y4, y5, y6, n, rfl, by simpa using hx.1, by simpa using hx.2, by simpa [Value.cells, o0, k0] using hg 0 f0 rfl, by simpa [Value.cells, o1, k1] using hg 1 f1 rfl, by simpa [Value.cells, o2, k2] using hg 2 f2 rfl, by simpa [Value.cells, o3, k3] using hg 3 f3 rfl, by simpa [Value.cells, o4, k4] using hg 4 f4 rfl, by simpa [Value.cells, o5, k5] using hg 5 f5 rfl, by simpa [Value.cells, o6, k6] using hg 6 f6 rfl⟩
theorem open_agg8 {r : Reach} {b0 : Nat} {t : TypeId} {f0 f1 f2 f3 f4 f5 f6 f7 : Field} {v : Value} {d : DataW H} {p : List MemPlace} (hs : P.underlying t = some (.struct #[f0, f1, f2, f3, f4, f5, f6, f7])) (hone : oneCellFields P #[f0, f1, f2, f3, f4, f5, f6, f7] = true) (hC : P.cellsOf t = 8)
  (hv : Value.okWide P w r b0 t v) (h : DataW.Trod enc P w base spare held t v d p) :
  ∃ (v0 v1 v2 v3 v4 v5 v6 v7 : Value) (y0 y1 y2 y3 y4 y5 y6 y7 : DataW H × List MemPlace) (n : Nat), v = .agg #[v0, v1, v2, v3, v4, v5, v6, v7] ∧ d = .agg [y0.1, y1.1, y2.1, y3.1, y4.1, y5.1, y6.1, y7.1] ∧ p = y0.2 ++ (y1.2 ++ (y2.2 ++ (y3.2 ++ (y4.2 ++ (y5.2 ++ (y6.2 ++ y7.2)))))) ∧
   DataW.trod enc P w base spare held n f0.type [v0] = some y0 ∧ DataW.trod enc P w base spare held n f1.type [v1] = some y1 ∧ DataW.trod enc P w base spare held n f2.type [v2] = some y2 ∧ DataW.trod enc P w base spare held n f3.type [v3] = some y3 ∧ DataW.trod enc P w base spare held n f4.type [v4] = some y4 ∧ DataW.trod enc P w base spare held n f5.type [v5] = some y5 ∧ DataW.trod enc P w base spare held n f6.type [v6] = some y6 ∧ DataW.trod enc P w base spare held n f7.type [v7] = some y7 := by
 obtain ⟨cs, rfl, hsz⟩ := okWide_struct hs hv
 obtain ⟨l⟩ := cs
 match l, hsz.trans hC with
 | [c0, c1, c2, c3, c4, c5, c6, c7], _ =>
  obtain ⟨fuel, hf⟩ := h
  obtain ⟨xs, n, _, hx, _, hlen, hg⟩ := DataW.trod_struct hs hf
  obtain ⟨o0, k0⟩ := hone_of hone 0 f0 rfl
  obtain ⟨o1, k1⟩ := hone_of hone 1 f1 rfl
  obtain ⟨o2, k2⟩ := hone_of hone 2 f2 rfl
  obtain ⟨o3, k3⟩ := hone_of hone 3 f3 rfl
  obtain ⟨o4, k4⟩ := hone_of hone 4 f4 rfl
  obtain ⟨o5, k5⟩ := hone_of hone 5 f5 rfl
  obtain ⟨o6, k6⟩ := hone_of hone 6 f6 rfl
  obtain ⟨o7, k7⟩ := hone_of hone 7 f7 rfl
  match xs, hlen with
  | [y0, y1, y2, y3, y4, y5, y6, y7], _ =>
   simp only [Prod.mk.injEq] at hx
   exact ⟨c0, c1, c2, c3, c4, c5, c6, c7, y0, y1, y2, y3, y4, y5, y6, y7, n, rfl, by simpa using hx.1, by simpa using hx.2, by simpa [Value.cells, o0, k0] using hg 0 f0 rfl, by simpa [Value.cells, o1, k1] using hg 1 f1 rfl, by simpa [Value.cells, o2, k2] using hg 2 f2 rfl, by simpa [Value.cells, o3, k3] using hg 3 f3 rfl, by simpa [Value.cells, o4, k4] using hg 4 f4 rfl, by simpa [Value.cells, o5, k5] using hg 5 f5 rfl, by simpa [Value.cells, o6, k6] using hg 6 f6 rfl, by simpa [Value.cells, o7, k7] using hg 7 f7 rfl⟩
theorem open_agg9 {r : Reach} {b0 : Nat} {t : TypeId} {f0 f1 f2 f3 f4 f5 f6 f7 f8 : Field} {v : Value} {d : DataW H} {p : List MemPlace} (hs : P.underlying t = some (.struct #[f0, f1, f2, f3, f4, f5, f6, f7, f8])) (hone : oneCellFields P #[f0, f1, f2, f3, f4, f5, f6, f7, f8] = true) (hC : P.cellsOf t = 9)
  (hv : Value.okWide P w r b0 t v) (h : DataW.Trod enc P w base spare held t v d p) :
  ∃ (v0 v1 v2 v3 v4 v5 v6 v7 v8 : Value) (y0 y1 y2 y3 y4 y5 y6 y7 y8 : DataW H × List MemPlace) (n : Nat), v = .agg #[v0, v1, v2, v3, v4, v5, v6, v7, v8] ∧ d = .agg [y0.1, y1.1, y2.1, y3.1, y4.1, y5.1, y6.1, y7.1, y8.1] ∧ p = y0.2 ++ (y1.2 ++ (y2.2 ++ (y3.2 ++ (y4.2 ++ (y5.2 ++ (y6.2 ++ (y7.2 ++ y8.2))))))) ∧
   DataW.trod enc P w base spare held n f0.type [v0] = some y0 ∧ DataW.trod enc P w base spare held n f1.type [v1] = some y1 ∧ DataW.trod enc P w base spare held n f2.type [v2] = some y2 ∧ DataW.trod enc P w base spare held n f3.type [v3] = some y3 ∧ DataW.trod enc P w base spare held n f4.type [v4] = some y4 ∧ DataW.trod enc P w base spare held n f5.type [v5] = some y5 ∧ DataW.trod enc P w base spare held n f6.type [v6] = some y6 ∧ DataW.trod enc P w base spare held n f7.type [v7] = some y7 ∧ DataW.trod enc P w base spare held n f8.type [v8] = some y8 := by
 obtain ⟨cs, rfl, hsz⟩ := okWide_struct hs hv
 obtain ⟨l⟩ := cs
 match l, hsz.trans hC with
 | [c0, c1, c2, c3, c4, c5, c6, c7, c8], _ =>
  obtain ⟨fuel, hf⟩ := h
  obtain ⟨xs, n, _, hx, _, hlen, hg⟩ := DataW.trod_struct hs hf
  obtain ⟨o0, k0⟩ := hone_of hone 0 f0 rfl
  obtain ⟨o1, k1⟩ := hone_of hone 1 f1 rfl
  obtain ⟨o2, k2⟩ := hone_of hone 2 f2 rfl
  obtain ⟨o3, k3⟩ := hone_of hone 3 f3 rfl
  obtain ⟨o4, k4⟩ := hone_of hone 4 f4 rfl
  obtain ⟨o5, k5⟩ := hone_of hone 5 f5 rfl
  obtain ⟨o6, k6⟩ := hone_of hone 6 f6 rfl
  obtain ⟨o7, k7⟩ := hone_of hone 7 f7 rfl
  obtain ⟨o8, k8⟩ := hone_of hone 8 f8 rfl
  match xs, hlen with
  | [y0, y1, y2, y3, y4, y5, y6, y7, y8], _ =>
   simp only [Prod.mk.injEq] at hx
   exact ⟨c0, c1, c2, c3, c4, c5, c6, c7, c8, y0, y1, y2, y3, y4, y5, y6, y7, y8, n, rfl, by simpa using hx.1, by simpa using hx.2, by simpa [Value.cells, o0, k0] using hg 0 f0 rfl, by simpa [Value.cells, o1, k1] using hg 1 f1 rfl, by simpa [Value.cells, o2, k2] using hg 2 f2 rfl, by simpa [Value.cells, o3, k3] using hg 3 f3 rfl, by simpa [Value.cells, o4, k4] using hg 4 f4 rfl, by simpa [Value.cells, o5, k5] using hg 5 f5 rfl, by simpa [Value.cells, o6, k6] using hg 6 f6 rfl, by simpa [Value.cells, o7, k7] using hg 7 f7 rfl, by simpa [Value.cells, o8, k8] using hg 8 f8 rfl⟩
end
section
variable {H : Type} {enc : TypeId × Value → H} {P : Program} {w : World} {base : Nat} {spare : Nat → Bool} {held : Bool}
theorem open_slice_fields {t e : TypeId} {fs : Array Field} {fuel : Nat} {cs : List Value} {x : DataW H × List MemPlace} (ht : P.underlying t = some (.slice e)) (he : P.underlying e = some (.struct fs))
  (hone : oneCellFields P fs = true) (hC : P.cellsOf e = fs.size) (h : DataW.trod enc P w base spare held fuel t cs = some x) :
  (cs = [.slice none 0 0] ∧ x = (.nil, [])) ∨
  ∃ (a : Addr) (len cap m : Nat) (D : Nat → DataW H) (Pl : Nat → List MemPlace), cs = [.slice (some a) len cap] ∧ base ≤ a.block ∧ len ≤ cap ∧ cap ≤ maxLen ∧ m = (if spare a.block then cap else len) ∧
   x = (.slice ((List.range len).map D) ((List.range (m - len)).map fun j => D (len + j)), MemPlace.row a (m * fs.size) ++ (List.range m).flatMap Pl) ∧
   ∀ i, i < m → ∃ (ys : List (DataW H × List MemPlace)) (n : Nat), D i = .agg (ys.map (·.1)) ∧ Pl i = ys.flatMap (·.2) ∧ ys.length = fs.size ∧
    ∀ (j : Nat) (f : Field), fs[j]? = some f → ∃ (v : Value) (y : DataW H × List MemPlace), w.cell? (a.add (i * fs.size + j)) = some v ∧ ys[j]? = some y ∧ DataW.trod enc P w base spare held n f.type [v] = some y := by
 rcases open_slice ht h with h0 | ⟨a, len, cap, m, n, D, Pl, hcs, hb, hl, hm, hmm, hx, hi⟩
 ·exact .inl h0
 ·refine .inr ⟨a, len, cap, m, D, Pl, hcs, hb, hl, hm, hmm, by rw [hC] at hx; exact hx, fun i him => ?_⟩
  obtain ⟨cs', hc, ht'⟩ := hi i him
  rw [hC] at hc
  obtain ⟨ys, n', hn', hy, hlen, hyl, hf⟩ := DataW.trod_struct he ht'
  obtain ⟨_, hcl, hat⟩ := World.cells?_some hc
  simp only [Prod.mk.injEq] at hy
  refine ⟨ys, n', hy.1, hy.2, hyl, fun j f hj => ?_⟩
  obtain ⟨ho, hk⟩ := hone_of hone j f hj
  have hjl : j < fs.size := (Array.getElem?_eq_some_iff.1 hj).1
  have hcell := hat j hjl
  have hv : cs'[j]? = some (cs'[j]'(by omega)) := List.getElem?_eq_getElem (by omega)
  have h1 := hf j f hj
  rw [ho, hk] at h1
  have hone' : (cs'.drop j).take 1 = [cs'[j]'(by omega)] := by
   rw [List.drop_eq_getElem_cons (by omega)]
   rfl
  rw [hone'] at h1
  have hys : ys[j]? = some (ys[j]'(by omega)) := List.getElem?_eq_getElem (by omega)
  refine ⟨_, _, ?_, hys, h1.trans hys⟩
  rw [← Go.Deep.add_add, hcell, hv]
end
end Go.Proofs.Ytgakmnholegbgaa.B
end
