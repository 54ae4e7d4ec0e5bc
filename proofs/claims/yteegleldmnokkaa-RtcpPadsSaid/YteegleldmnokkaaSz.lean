/-
  Messages joined and split again: plain laws, no program.
-/
import Derived.Test.YteegleldmnokkaaSy
namespace Go.Proofs.Yteegleldmnokkaa.B
open Go.RowKit Go.Proofs.YteegleldmnokkaaW.PrintWords
/-- A list of bytes as a text. -/
abbrev tx (L : List UInt8) : ByteArray := ⟨L.toArray⟩
theorem tx_size (L : List UInt8) : (tx L).size = L.length := by show L.toArray.size = _; simp
theorem tx_of (s : ByteArray) : tx s.data.toList = s := by cases s; simp [tx]
theorem byteN_tx (L : List UInt8) (i : Nat) : byteN (tx L) i = (L.getD i 0).toNat := by
  unfold byteN bt
  simp only [Int.toNat_natCast, tx_size]
  by_cases h : i < L.length
  · rw [dif_pos h]
    have : (tx L)[i]'(by rw [tx_size]; exact h) = L[i] := by
      show L.toArray[i] = _
      simp
    rw [this, List.getD_eq_getElem?_getD, List.getElem?_eq_getElem h]
    simp
  · rw [dif_neg h, List.getD_eq_getElem?_getD, List.getElem?_eq_none (by omega)]
    rfl
theorem tx_extract (L : List UInt8) (a b : Nat) : (tx L).extract a b = tx ((L.take b).drop a) := by
  apply ByteArray.ext
  rw [ByteArray.data_extract]
  show L.toArray.extract a b = _
  apply Array.ext'
  simp [List.drop_take]
theorem u8_nat (n : Nat) (h : n < 256) : (UInt8.ofNat n).toNat = n := by rw [UInt8.toNat_ofNat']; omega
/-- A part whose bytes stand first: with a pad of q bytes, told by the last of it, or with none. -/
theorem part_first (c t n : Nat) (B P T : List UInt8) (hc : c < 32) (ht1 : 192 ≤ t) (ht2 : t ≤ 223) (hn : n ≤ 65535) (hB : B.length + P.length = 4 * n) (p : Nat) (hp : p ≤ 1) (h0 : p = 0 → P = [])
    (h1 : p = 1 → T = [] ∧ 4 ≤ P.length ∧ P.length % 4 = 0 ∧ P.length < 256 ∧ P.getD (P.length - 1) 0 = UInt8.ofNat P.length) :
    partErr (tx (UInt8.ofNat (128 + 32 * p + c) :: UInt8.ofNat t :: UInt8.ofNat (n / 256) :: UInt8.ofNat (n % 256) :: (B ++ P ++ T))) = 0 ∧
      partOf (tx (UInt8.ofNat (128 + 32 * p + c) :: UInt8.ofNat t :: UInt8.ofNat (n / 256) :: UInt8.ofNat (n % 256) :: (B ++ P ++ T))) = ((c : Int), (t : Int), tx B) ∧
      restOf (tx (UInt8.ofNat (128 + 32 * p + c) :: UInt8.ofNat t :: UInt8.ofNat (n / 256) :: UInt8.ofNat (n % 256) :: (B ++ P ++ T))) = tx T ∧
      partSize (tx (UInt8.ofNat (128 + 32 * p + c) :: UInt8.ofNat t :: UInt8.ofNat (n / 256) :: UInt8.ofNat (n % 256) :: (B ++ P ++ T))) = 4 + 4 * n := by
  obtain ⟨L, hL⟩ : ∃ L, L = UInt8.ofNat (128 + 32 * p + c) :: UInt8.ofNat t :: UInt8.ofNat (n / 256) :: UInt8.ofNat (n % 256) :: (B ++ P ++ T) := ⟨_, rfl⟩
  rw [← hL]
  have e0 : byteN (tx L) 0 = 128 + 32 * p + c := by rw [byteN_tx, hL]; exact u8_nat _ (by omega)
  have e1 : byteN (tx L) 1 = t := by rw [byteN_tx, hL]; exact u8_nat _ (by omega)
  have e2 : byteN (tx L) 2 = n / 256 := by rw [byteN_tx, hL]; exact u8_nat _ (by omega)
  have e3 : byteN (tx L) 3 = n % 256 := by rw [byteN_tx, hL]; exact u8_nat _ (by omega)
  have hlen : L.length = 4 + 4 * n + T.length := by
    rw [hL]
    simp only [List.length_cons, List.length_append]
    omega
  have hps : partSize (tx L) = 4 + 4 * n := by unfold partSize; rw [e2, e3]; omega
  have hsz := tx_size L
  obtain ⟨S, hS⟩ : ∃ S, S = (tx L).size := ⟨_, rfl⟩
  rw [← hS] at hsz
  have hpad : p = 1 → padN (tx L) = P.length := by
    intro hp1
    obtain ⟨_, q2, _, q4, q5⟩ := h1 hp1
    unfold padN
    rw [hps, if_pos (by omega), byteN_tx, hL]
    have e : 4 + 4 * n - 1 = (B.length + (P.length - 1)) + 1 + 1 + 1 + 1 := by omega
    rw [e]
    simp only [List.getD_cons_succ]
    rw [List.getD_eq_getElem?_getD, List.append_assoc, List.getElem?_append_right (by omega), Nat.add_sub_cancel_left, List.getElem?_append_left (by omega), ← List.getD_eq_getElem?_getD, q5]
    exact u8_nat _ q4
  refine ⟨?_, ?_, ?_, hps⟩
  · unfold partErr
    rw [hps, e0, e1, ← hS, if_neg (by omega), if_neg (by omega), if_neg (by omega), if_neg (by omega), if_neg]
    rintro ⟨z1, z2⟩
    have hp1 : p = 1 := by omega
    obtain ⟨q1, q2, q3, q4, q5⟩ := h1 hp1
    rw [hpad hp1] at z2
    have : T.length = 0 := by rw [q1]; rfl
    exact z2 ⟨by omega, q2, q3, by omega⟩
  · unfold partOf
    rw [e0, e1]
    have hb : partBody (tx L) = tx B := by
      unfold partBody
      rw [hps, e0]
      have key : (if (128 + 32 * p + c) / 32 % 2 = 1 then 4 + 4 * n - padN (tx L) else 4 + 4 * n) = 4 + B.length := by
        by_cases hp1 : p = 1
        · rw [if_pos (by omega), hpad hp1]
          omega
        · have hp0 : p = 0 := by omega
          rw [if_neg (by omega), ← hB, h0 hp0]
          simp
      rw [key, tx_extract, hL]
      have e : 4 + B.length = B.length + 1 + 1 + 1 + 1 := by omega
      rw [e]
      simp only [List.take_succ_cons, List.drop_succ_cons, List.drop_zero]
      rw [List.append_assoc, List.take_left']
      rfl
    rw [hb]
    refine Prod.ext ?_ (Prod.ext rfl rfl)
    show (((128 + 32 * p + c) % 32 : Nat) : Int) = c
    omega
  · unfold restOf
    rw [hps, ← hS, hsz, tx_extract, List.take_length, hL]
    have e : 4 + 4 * n = (B ++ P).length + 1 + 1 + 1 + 1 := by rw [List.length_append]; omega
    rw [e]
    simp only [List.drop_succ_cons]
    rw [List.drop_left']
    rfl
theorem part_ok (x : P3) (T : List UInt8) (h : partOk x = true) : partErr (tx (partBytes x ++ T)) = 0 ∧ partOf (tx (partBytes x ++ T)) = x ∧ restOf (tx (partBytes x ++ T)) = tx T := by
  obtain ⟨x1, x2, x3⟩ := x
  obtain ⟨a1, a2, a3, a4, a5, a6⟩ := (partOk_iff _).1 h
  dsimp only at a1 a2 a3 a4 a5 a6
  obtain ⟨c, rfl⟩ := Int.eq_ofNat_of_zero_le a1
  obtain ⟨t, rfl⟩ := Int.eq_ofNat_of_zero_le (show 0 ≤ x2 by omega)
  have hl : x3.data.toList.length = x3.size := by simp
  have := part_first c t (x3.size / 4) x3.data.toList [] T (by omega) (by omega) (by omega) (by omega) (by rw [hl, List.length_nil]; omega) 0 (by omega) (fun _ => rfl) (fun h => by omega)
  rw [List.append_nil, tx_of] at this
  have e : partBytes (((c : Int), (t : Int), x3) : P3) ++ T = UInt8.ofNat (128 + 32 * 0 + c) :: UInt8.ofNat t :: UInt8.ofNat (x3.size / 4 / 256) :: UInt8.ofNat (x3.size / 4 % 256) :: (x3.data.toList ++ T) := rfl
  rw [e]
  exact ⟨this.1, this.2.1, this.2.2.1⟩
theorem splitR_part (x : P3) (T : List UInt8) (h : partOk x = true) : splitR (tx (partBytes x ++ T)) = (splitR (tx T)).map (x :: ·) := by
  obtain ⟨h1, h2, h3⟩ := part_ok x T h
  rw [splitR_go _ h1, h2, h3]
  rw [tx_size, List.length_append, partBytes_length]
  simp only [sizeP]
  omega
theorem splitR_all (l : List P3) (T : List UInt8) (h : ∀ x ∈ l, partOk x = true) : splitR (tx (allBytes l ++ T)) = (splitR (tx T)).map (l ++ ·) := by
  induction l with
  | nil =>
    simp only [allBytes, List.flatMap_nil, List.nil_append]
    cases splitR (tx T) <;> rfl
  | cons x l ih =>
    have e : allBytes (x :: l) ++ T = partBytes x ++ (allBytes l ++ T) := by simp [allBytes]
    rw [e, splitR_part x _ (h x List.mem_cons_self), ih (fun y hy => h y (List.mem_cons_of_mem _ hy))]
    cases splitR (tx T) <;> rfl
theorem splitR_empty : splitR (tx []) = .ok [] := splitR_nil rfl
/-- What was joined is split as it was. -/
theorem split_join (l : List P3) (t : ByteArray) (h : joinP l = (t, 0)) : splitP t = (l, 0) ∧ t = tx (allBytes l) ∧ (∀ x ∈ l, partOk x = true) ∧ l ≠ [] ∧ total l ≤ 65536 := by
  unfold joinP at h
  split at h
  · cases h
  · rename_i h0
    split at h
    · cases h
    · rename_i h1
      split at h
      · cases h
      · rename_i h2
        have ht : t = tx (allBytes l) := (congrArg Prod.fst h).symm
        have hok : ∀ x ∈ l, partOk x = true := List.all_eq_true.1 (by simpa using h1)
        have hsz : t.size = total l := by rw [ht, tx_size, allBytes_length]
        have hpos : 0 < total l := by
          cases l with
          | nil => exact absurd rfl h0
          | cons x m => rw [total_cons]; simp only [sizeP]; omega
        refine ⟨splitP_ok (by omega) (by omega) ?_, ht, hok, h0, by omega⟩
        have := splitR_all l [] hok
        rw [List.append_nil, splitR_empty] at this
        rw [ht, this]
        show Except.ok _ = Except.ok _
        simp
theorem join_ok {l : List P3} (h0 : l ≠ []) (h1 : ∀ x ∈ l, partOk x = true) (h2 : total l ≤ 65536) : joinP l = (tx (allBytes l), 0) := by
  unfold joinP
  rw [if_neg h0, if_neg (by rw [List.all_eq_true.2 h1]; simp), if_neg (by omega)]
/-- A part that was read is one that may be joined, and is no longer. -/
theorem partOf_ok {s : ByteArray} (h : partErr s = 0) : partOk (partOf s) = true ∧ sizeP (partOf s) ≤ partSize s ∧ partSize s ≤ s.size ∧
    (sizeP (partOf s) = partSize s ∨ (partSize s = s.size ∧ partSize s ≤ sizeP (partOf s) + 255 ∧ sizeP (partOf s) < partSize s)) := by
  obtain ⟨hs, _⟩ := partErr_size h
  have b0 := byteN_lt s 0
  have b1 := byteN_lt s 1
  have b2 := byteN_lt s 2
  have b3 := byteN_lt s 3
  have hp : partSize s = 4 + 4 * (byteN s 2 * 256 + byteN s 3) := rfl
  obtain ⟨V0, hV0⟩ : ∃ V, V = byteN s 0 := ⟨_, rfl⟩
  obtain ⟨V1, hV1⟩ : ∃ V, V = byteN s 1 := ⟨_, rfl⟩
  obtain ⟨W, hW⟩ : ∃ V, V = byteN s 2 * 256 + byteN s 3 := ⟨_, rfl⟩
  have hWl : W ≤ 65535 := by omega
  rw [← hW] at hp
  obtain ⟨Q, hQ⟩ : ∃ V, V = padN s := ⟨_, rfl⟩
  have hQl : Q < 256 := by
    rw [hQ]
    unfold padN
    split
    · exact byteN_lt _ _
    · omega
  unfold partErr at h
  rw [← hV0, ← hV1, ← hQ, hp] at h
  have hbs : (partBody s).size = (if V0 / 32 % 2 = 1 then 4 + 4 * W - Q else 4 + 4 * W) - 4 := by
    unfold partBody
    rw [← hV0, hp, ← hQ, ByteArray.size_extract]
    split <;> omega
  have hof : partOf s = (((V0 % 32 : Nat) : Int), ((V1 : Nat) : Int), partBody s) := by unfold partOf; rw [hV0, hV1]
  rw [hof, hp]
  simp only [sizeP, partOk_iff]
  obtain ⟨Z, hZ⟩ : ∃ Z, Z = (partBody s).size := ⟨_, rfl⟩
  rw [← hZ] at hbs ⊢
  rw [hp] at hs
  obtain ⟨S, hS⟩ : ∃ S, S = s.size := ⟨_, rfl⟩
  rw [← hS] at h hs ⊢
  clear hZ hS hof hp hQ hV0 hV1 hW b0 b1 b2 b3
  split at h
  · cases h
  split at h
  · cases h
  split at h
  · cases h
  split at h
  · cases h
  split at h
  · cases h
  rename_i c1 c2 c3 c4 c5
  by_cases hpd : V0 / 32 % 2 = 1
  · have c6 : 4 + 4 * W = S ∧ 4 ≤ Q ∧ Q % 4 = 0 ∧ Q ≤ 4 + 4 * W - 4 := Classical.byContradiction fun hh => c5 ⟨hpd, hh⟩
    rw [if_pos hpd] at hbs
    omega
  · rw [if_neg hpd] at hbs
    omega
theorem splitR_ok : ∀ (n : Nat) (s : ByteArray) (l : List P3), s.size = n → splitR s = .ok l → (∀ x ∈ l, partOk x = true) ∧ total l ≤ s.size ∧ s.size ≤ total l + 255 ∧ (l = [] → s.size = 0) := by
  intro n
  induction n using Nat.strongRecOn with
  | _ n ih =>
    intro s l hn h
    by_cases h0 : s.size = 0
    · rw [splitR_nil h0] at h
      injection h with h
      subst h
      exact ⟨fun x hx => by simp at hx, by simp [total], by omega, fun _ => h0⟩
    · by_cases he : partErr s = 0
      · rw [splitR_go h0 he] at h
        obtain ⟨p1, p2, p3, p4⟩ := partOf_ok he
        have hg := partSize_ge s
        have hr := restOf_size s
        cases hm : splitR (restOf s) with
        | error e => rw [hm] at h; cases h
        | ok m =>
          rw [hm] at h
          have hl : l = partOf s :: m := by injection h with h; exact h.symm
          subst hl
          obtain ⟨i1, i2, i3, i4⟩ := ih _ (by omega) (restOf s) m rfl hm
          refine ⟨?_, ?_, ?_, fun hh => by cases hh⟩
          · intro x hx
            rcases List.mem_cons.1 hx with rfl | hx
            · exact p1
            · exact i1 x hx
          · rw [total_cons]; omega
          · rw [total_cons]
            rcases p4 with p4 | ⟨p4, p5, p6⟩
            · omega
            · have hz : (restOf s).size = 0 := by omega
              have hm0 : m = [] := by
                rw [splitR_nil hz] at hm
                injection hm with hm
                exact hm.symm
              subst hm0
              simp only [total_nil]
              omega
      · rw [splitR_bad h0 he] at h
        cases h
theorem splitR_err : ∀ (n : Nat) (s : ByteArray), s.size = n → splitR s = .error 0 → False := by
  intro n
  induction n using Nat.strongRecOn with
  | _ n ih =>
    intro s hn h
    by_cases h0 : s.size = 0
    · rw [splitR_nil h0] at h
      cases h
    · by_cases he : partErr s = 0
      · rw [splitR_go h0 he] at h
        obtain ⟨p1, p2, p3, p4⟩ := partOf_ok he
        have hg := partSize_ge s
        have hr := restOf_size s
        cases hm : splitR (restOf s) with
        | error e =>
          rw [hm] at h
          have : e = 0 := by injection h
          subst this
          exact ih _ (by omega) (restOf s) rfl hm
        | ok m => rw [hm] at h; cases h
      · rw [splitR_bad h0 he] at h
        injection h with h
        exact he h
theorem splitP_inv {s : ByteArray} {l : List P3} (h : splitP s = (l, 0)) : s.size ≤ 65536 ∧ ¬ s.size = 0 ∧ splitR s = .ok l := by
  unfold splitP at h
  split at h
  · injection h with _ h; cases h
  split at h
  · injection h with _ h; cases h
  refine ⟨by omega, by assumption, ?_⟩
  cases hr : splitR s with
  | ok m =>
    rw [hr] at h
    injection h with h
    rw [h]
  | error e =>
    rw [hr] at h
    dsimp only at h
    injection h with h1 h2
    subst h2
    exact (splitR_err _ s rfl hr).elim
theorem splitP_fst {s : ByteArray} (h : (splitP s).2 ≠ 0) : (splitP s).1 = [] := by
  by_cases h1 : 65536 < s.size
  · rw [splitP_long h1]
  by_cases h2 : s.size = 0
  · rw [splitP_none h2]
  cases hr : splitR s with
  | ok m => rw [splitP_ok (by omega) h2 hr] at h; exact absurd rfl h
  | error e => rw [splitP_bad (by omega) h2 hr]
/-- The bytes of a part that is not padded. -/
theorem part_bytes (L : List UInt8) (h : partErr (tx L) = 0) (hs : sizeP (partOf (tx L)) = partSize (tx L)) : L = partBytes (partOf (tx L)) ++ L.drop (partSize (tx L)) := by
  obtain ⟨hsz, h4⟩ := partErr_size h
  rw [tx_size] at hsz h4
  obtain ⟨a, b, c, d, R, rfl⟩ : ∃ a b c d R, L = a :: b :: c :: d :: R := by
    rcases L with _ | ⟨a, _ | ⟨b, _ | ⟨c, _ | ⟨d, R⟩⟩⟩⟩
    · simp at h4
    · simp at h4
    · simp at h4
    · simp at h4
    · exact ⟨a, b, c, d, R, rfl⟩
  have e0 : byteN (tx (a :: b :: c :: d :: R)) 0 = a.toNat := by rw [byteN_tx]; rfl
  have e1 : byteN (tx (a :: b :: c :: d :: R)) 1 = b.toNat := by rw [byteN_tx]; rfl
  have e2 : byteN (tx (a :: b :: c :: d :: R)) 2 = c.toNat := by rw [byteN_tx]; rfl
  have e3 : byteN (tx (a :: b :: c :: d :: R)) 3 = d.toNat := by rw [byteN_tx]; rfl
  obtain ⟨X, hX⟩ : ∃ X, X = tx (a :: b :: c :: d :: R) := ⟨_, rfl⟩
  have hXs : X.size = R.length + 4 := by rw [hX, tx_size]; rfl
  have hps : partSize X = 4 + 4 * (c.toNat * 256 + d.toNat) := by unfold partSize; rw [hX, e2, e3]
  rw [← hX] at h hs e0 e1 e2 e3 hsz ⊢
  have ha := a.toNat_lt
  have hb := b.toNat_lt
  have hc := c.toNat_lt
  have hd := d.toNat_lt
  obtain ⟨A, hA⟩ : ∃ A, A = a.toNat := ⟨_, rfl⟩
  obtain ⟨C, hC⟩ : ∃ A, A = c.toNat := ⟨_, rfl⟩
  obtain ⟨D, hD⟩ : ∃ A, A = d.toNat := ⟨_, rfl⟩
  rw [← hC, ← hD] at hps
  rw [← hA] at e0 ha
  rw [← hC] at hc
  rw [← hD] at hd
  have hbs : (partBody X).size = (if A / 32 % 2 = 1 then partSize X - padN X else partSize X) - 4 := by
    unfold partBody
    rw [e0, ByteArray.size_extract]
    obtain ⟨S, hS⟩ : ∃ S, S = X.size := ⟨_, rfl⟩
    rw [← hS] at hXs ⊢
    have hl : (a :: b :: c :: d :: R).length = R.length + 4 := rfl
    split <;> omega
  have hsp : sizeP (partOf X) = 4 + (partBody X).size := rfl
  have hn : ¬ A / 32 % 2 = 1 := by
    intro hp
    rw [if_pos hp] at hbs
    unfold partErr at h
    rw [e0] at h
    obtain ⟨Q, hQ⟩ : ∃ Q, Q = padN X := ⟨_, rfl⟩
    obtain ⟨Z, hZ⟩ : ∃ Q, Q = (partBody X).size := ⟨_, rfl⟩
    obtain ⟨PS, hPS⟩ : ∃ Q, Q = partSize X := ⟨_, rfl⟩
    obtain ⟨SP, hSP⟩ : ∃ Q, Q = sizeP (partOf X) := ⟨_, rfl⟩
    rw [← hQ] at h hbs
    rw [← hZ] at hbs hsp
    rw [← hPS] at h hbs hps hs
    rw [← hSP] at hs hsp
    split at h
    · cases h
    split at h
    · cases h
    split at h
    · cases h
    split at h
    · cases h
    split at h
    · cases h
    rename_i c5
    have c6 : PS = X.size ∧ 4 ≤ Q ∧ Q % 4 = 0 ∧ Q ≤ PS - 4 := Classical.byContradiction fun hh => c5 ⟨hp, hh⟩
    omega
  rw [if_neg hn] at hbs
  have hm : A / 64 % 4 = 2 := by
    unfold partErr at h
    rw [e0] at h
    split at h
    · cases h
    split at h
    · cases h
    split at h
    · cases h
    rename_i c3
    exact Classical.byContradiction fun hh => c3 hh
  have hbody : partBody X = tx (R.take (4 * (C * 256 + D))) := by
    unfold partBody
    rw [e0, if_neg hn, hps, hX, tx_extract]
    have e : 4 + 4 * (C * 256 + D) = 4 * (C * 256 + D) + 1 + 1 + 1 + 1 := by omega
    rw [e]
    rfl
  have hof : partOf X = (((A % 32 : Nat) : Int), ((b.toNat : Nat) : Int), partBody X) := by unfold partOf; rw [e0, e1]
  have hq : (partBody X).size / 4 = C * 256 + D := by rw [hbs, hps]; omega
  unfold partBytes
  rw [hof]
  dsimp only
  rw [hq, hbody, hps, Int.toNat_natCast, Int.toNat_natCast]
  have f0 : UInt8.ofNat (128 + A % 32) = a := by
    apply UInt8.toNat_inj.1
    rw [u8_nat _ (by omega), ← hA]
    omega
  have f1 : UInt8.ofNat b.toNat = b := by simp
  have f2 : UInt8.ofNat ((C * 256 + D) / 256) = c := by
    apply UInt8.toNat_inj.1
    rw [u8_nat _ (by omega), ← hC]
    omega
  have f3 : UInt8.ofNat ((C * 256 + D) % 256) = d := by
    apply UInt8.toNat_inj.1
    rw [u8_nat _ (by omega), ← hD]
    omega
  rw [f0, f1, f2, f3]
  have e : 4 + 4 * (C * 256 + D) = 4 * (C * 256 + D) + 1 + 1 + 1 + 1 := by omega
  rw [e]
  simp only [List.drop_succ_cons, List.cons_append, List.nil_append]
  rw [List.take_append_drop]
theorem rest_tx (L : List UInt8) : restOf (tx L) = tx (L.drop (partSize (tx L))) := by
  unfold restOf
  rw [tx_size, tx_extract, List.take_length]
theorem splitR_whole : ∀ (n : Nat) (L : List UInt8) (l : List P3), L.length = n → splitR (tx L) = .ok l → total l = L.length → L = allBytes l := by
  intro n
  induction n using Nat.strongRecOn with
  | _ n ih =>
    intro L l hn h ht
    by_cases h0 : (tx L).size = 0
    · rw [splitR_nil h0] at h
      injection h with h
      subst h
      rw [tx_size] at h0
      exact List.eq_nil_of_length_eq_zero h0
    · by_cases he : partErr (tx L) = 0
      · rw [splitR_go h0 he] at h
        obtain ⟨p1, p2, p3, p4⟩ := partOf_ok he
        have hg := partSize_ge (tx L)
        have hr := restOf_size (tx L)
        cases hm : splitR (restOf (tx L)) with
        | error e => rw [hm] at h; cases h
        | ok m =>
          rw [hm] at h
          have hl : l = partOf (tx L) :: m := by injection h with h; exact h.symm
          obtain ⟨i1, i2, i3, i4⟩ := splitR_ok _ (restOf (tx L)) m rfl hm
          rw [hl, total_cons] at ht
          have hts := tx_size L
          have hs : sizeP (partOf (tx L)) = partSize (tx L) := by omega
          have hL := part_bytes L he hs
          rw [rest_tx] at hm
          have hlen : (L.drop (partSize (tx L))).length = L.length - partSize (tx L) := List.length_drop
          have := ih _ (by omega) (L.drop (partSize (tx L))) m rfl hm (by omega)
          rw [hl]
          show L = partBytes (partOf (tx L)) ++ allBytes m
          rw [← this]
          exact hL
      · rw [splitR_bad h0 he] at h
        cases h
end Go.Proofs.Yteegleldmnokkaa.B
