/-
  Lists of packets that are asked for again: what is encoded is decoded as it was; how many entries a list takes. Plain laws, no program.
-/
import Derived.Test.YtnllbldfganfgaaNe
namespace Go.Proofs.Ytnllbldfganfgaa.B
open Go.RowKit Go.Proofs.YtnllbldfganfgaaW.PrintWords

/-! ### bits of a text -/
theorem toBits_getD (n v i : Nat) (h : i < n) : (toBits n v).getD i false = v.testBit (n - 1 - i) := by
  induction n generalizing i with
  | zero => omega
  | succ n ih =>
    cases i with
    | zero => simp [toBits]
    | succ i =>
      simp only [toBits, List.getD_cons_succ]
      rw [ih i (by omega), show n + 1 - 1 - (i + 1) = n - 1 - i by omega]
theorem valOf_testBit (l : List Bool) (i : Nat) (h : i < l.length) : (valOf l).testBit (l.length - 1 - i) = l.getD i false := by
  rw [← toBits_getD l.length (valOf l) i h, toBits_valOf]
theorem bt_str (xs : List Int) (j : Nat) (h : j < xs.length) (hx : ∀ x ∈ xs, 0 ≤ x ∧ x < 256) : bt (strOfNums xs) (j : Int) = xs.getD j 0 := by
  have hs : j < (strOfNums xs).size := by rw [strOfNums_size]; exact h
  have e : ((strOfNums xs)[j]'hs) = UInt8.ofNat (xs[j]).toNat := by
    show (strOfNums xs).data[j]'hs = _
    simp [strOfNums]
  have hx' := hx _ (List.getElem_mem h)
  unfold bt
  rw [dif_pos (by simpa using hs)]
  have e2 : ((strOfNums xs)[((j : Int)).toNat]'(by simpa using hs)) = UInt8.ofNat (xs[j]).toNat := e
  rw [e2, List.getD_eq_getElem?_getD, List.getElem?_eq_getElem h]
  simp
  omega
/-- The text that bits make. -/
def txt (l : List Bool) : ByteArray := strOfNums (packI l)
theorem txt_size (l : List Bool) : (txt l).size = (l.length + 7) / 8 := by unfold txt; rw [strOfNums_size, packI_length]
theorem packI_range (l : List Bool) : ∀ x ∈ packI l, 0 ≤ x ∧ x < 256 := by
  intro x hx
  simp only [packI, pack, List.map_map, List.mem_map, List.mem_range, Function.comp] at hx
  obtain ⟨j, _, rfl⟩ := hx
  have := byteAt_lt l j
  omega
theorem byteN_txt (l : List Bool) (j : Nat) (h : j < (l.length + 7) / 8) : byteN (txt l) j = byteAt l j := by
  unfold byteN txt
  rw [bt_str _ j (by rw [packI_length]; exact h) (packI_range l)]
  have := rd_packI l j h
  unfold rd at this
  simp only [Int.toNat_natCast] at this
  rw [this, Int.toNat_natCast]
theorem bitN_txt (l : List Bool) (i : Nat) (h : i < l.length) : bitN (txt l) i = l.getD i false := by
  unfold bitN
  rw [byteN_txt l _ (by omega)]
  unfold byteAt
  have hl : ((List.range 8).map fun k => l.getD (8 * (i / 8) + k) false).length = 8 := by simp
  have := valOf_testBit ((List.range 8).map fun k => l.getD (8 * (i / 8) + k) false) (i % 8) (by rw [hl]; omega)
  rw [hl] at this
  rw [show 7 - i % 8 = 8 - 1 - i % 8 by omega, this]
  have h8 : i % 8 < 8 := by omega
  rw [List.getD_eq_getElem?_getD, List.getElem?_map, List.getElem?_range h8]
  simp only [Option.map_some, Option.getD_some]
  rw [show 8 * (i / 8) + i % 8 = i by omega]
/-- What is read where a number's bits stand. -/
theorem rdBits_txt (pre post : List Bool) (v : Nat) : ∀ n, rdBits (txt (pre ++ toBits n v ++ post)) pre.length n = v % 2 ^ n := by
  intro n
  have key : ∀ k, k ≤ n → rdBits (txt (pre ++ toBits n v ++ post)) pre.length k = v % 2 ^ n / 2 ^ (n - k) := by
    intro k
    induction k with
    | zero =>
      intro _
      rw [rdBits, Nat.sub_zero]
      exact (Nat.div_eq_of_lt (Nat.mod_lt _ (Nat.two_pow_pos n))).symm
    | succ k ih =>
      intro hk
      rw [rdBits, ih (by omega), bitN_txt _ _ (by rw [List.length_append, List.length_append, toBits_length]; omega)]
      have e : (pre ++ toBits n v ++ post).getD (pre.length + k) false = v.testBit (n - 1 - k) := by
        rw [List.append_assoc, List.getD_eq_getElem?_getD, List.getElem?_append_right (by omega), show pre.length + k - pre.length = k by omega, List.getElem?_append_left (by rw [toBits_length]; omega), ← List.getD_eq_getElem?_getD, toBits_getD n v k (by omega)]
      rw [e]
      have e2 : n - k = (n - (k + 1)) + 1 := by omega
      rw [e2, Nat.pow_succ, ← Nat.div_div_eq_div_mul]
      have e3 : (v.testBit (n - 1 - k)).toNat = v % 2 ^ n / 2 ^ (n - (k + 1)) % 2 := by
        rw [show n - 1 - k = n - (k + 1) by omega]
        have : (v % 2 ^ n).testBit (n - (k + 1)) = v.testBit (n - (k + 1)) := by rw [Nat.testBit_mod_two_pow]; simp; omega
        rw [← this, Nat.testBit_eq_decide_div_mod_eq]
        rcases Nat.mod_two_eq_zero_or_one (v % 2 ^ n / 2 ^ (n - (k + 1))) with h | h <;> simp [h]
      rw [e3]
      omega
  have := key n (Nat.le_refl _)
  rw [this]
  simp
theorem rdBits_txt' (l pre post : List Bool) (v n a : Nat) (h : l = pre ++ (toBits n v ++ post)) (ha : a = pre.length) (hv : v < 2 ^ n) : rdBits (txt l) a n = v := by
  subst h ha
  rw [← List.append_assoc, rdBits_txt, Nat.mod_eq_of_lt hv]

/-! ### what an entry takes -/
theorem lost_low (f m m' : Nat) : ∀ k, (∀ i, i < k → m.testBit i = m'.testBit i) → lostPart f m k = lostPart f m' k := by
  intro k
  induction k with
  | zero => intro _; rfl
  | succ k ih =>
    intro h
    have ih' := ih fun i hi => h i (by omega)
    by_cases hb : m.testBit k = true
    · rw [lostPart_yes f m k hb, lostPart_yes f m' k (by rw [← h k (by omega)]; exact hb), ih']
    · have hb : m.testBit k = false := by simpa using hb
      rw [lostPart_no f m k hb, lostPart_no f m' k (by rw [← h k (by omega)]; exact hb), ih']
theorem lost_high (f m k : Nat) (h : ∀ i, k ≤ i → m.testBit i = false) : ∀ j, lostPart f m (k + j) = lostPart f m k := by
  intro j
  induction j with
  | zero => rfl
  | succ j ih => rw [← Nat.add_assoc, lostPart_no f m (k + j) (h _ (by omega)), ih]
theorem lost_add (f m d : Nat) (n : Int) (hd : 1 ≤ d) (hd16 : d ≤ 16) (hm : m < 2 ^ (d - 1)) (hn : dist f n = d) (hn0 : 0 ≤ n ∧ n < 65536) :
    lostPart f (m ||| 2 ^ (d - 1)) 16 = lostPart f m 16 ++ [n] := by
  have hhi : ∀ i, d - 1 ≤ i → m.testBit i = false := fun i hi => Nat.testBit_lt_two_pow (Nat.lt_of_lt_of_le hm (Nat.pow_le_pow_right (by omega) hi))
  have e1 : lostPart f m 16 = lostPart f m (d - 1) := by
    have := lost_high f m (d - 1) hhi (16 - (d - 1))
    rwa [show d - 1 + (16 - (d - 1)) = 16 by omega] at this
  have hb : (m ||| 2 ^ (d - 1)).testBit (d - 1) = true := by rw [Nat.testBit_or, Nat.testBit_two_pow_self]; simp
  have hhi' : ∀ i, d ≤ i → (m ||| 2 ^ (d - 1)).testBit i = false := fun i hi => by
    rw [Nat.testBit_or, hhi i (by omega), Nat.testBit_two_pow_of_ne (by omega)]; rfl
  have e2 : lostPart f (m ||| 2 ^ (d - 1)) 16 = lostPart f (m ||| 2 ^ (d - 1)) d := by
    have := lost_high f (m ||| 2 ^ (d - 1)) d hhi' (16 - d)
    rwa [show d + (16 - d) = 16 by omega] at this
  have e3 : lostPart f (m ||| 2 ^ (d - 1)) (d - 1) = lostPart f m (d - 1) := lost_low f _ _ _ fun i hi => by
    rw [Nat.testBit_or, Nat.testBit_two_pow_of_ne (by omega)]; simp
  have e4 := lostPart_yes f (m ||| 2 ^ (d - 1)) (d - 1) hb
  rw [show d - 1 + 1 = d by omega] at e4
  rw [e2, e4, e3, e1]
  congr 2
  unfold dist at hn
  omega
theorem Up.sub {l l' : List Int} (h : Up l) (hs : l'.Sublist l) : Up l' := ⟨fun x hx => h.1 x (hs.subset hx), h.2.sublist hs⟩
theorem take_lost (f : Nat) (t : List Int) : ∀ m, Up ((f : Int) :: t) → (∀ x ∈ t, m < 2 ^ ((dist f x).toNat - 1)) →
    lostPart f (takeMask f m t).1 16 ++ (takeMask f m t).2 = lostPart f m 16 ++ t := by
  induction t with
  | nil => intro m _ _; simp [takeMask]
  | cons n t ih =>
    intro m hup hm
    unfold takeMask
    by_cases h16 : dist (f : Int) n > 16
    · rw [if_pos h16]
    · rw [if_neg h16]
      obtain ⟨⟨hf0, hf1⟩, hd⟩ := hup.head
      have hdn := hd n List.mem_cons_self
      have hn0 : 0 ≤ n ∧ n < 65536 := hup.1 n (List.mem_cons_of_mem _ List.mem_cons_self)
      have hup2 : Up ((f : Int) :: t) := hup.sub (List.Sublist.cons_cons _ (List.sublist_cons_self _ _))
      have hmn := hm n List.mem_cons_self
      have hadd := lost_add f m (dist f n).toNat n (by omega) (by omega) hmn (by omega) hn0
      rw [ih _ hup2 fun x hx => ?_, hadd]
      · simp
      · have hx1 := hd x (List.mem_cons_of_mem _ hx)
        have hnx := (hup.tail.head).2 x hx
        have hlt : (dist (f : Int) n).toNat ≤ (dist (f : Int) x).toNat - 1 := by unfold dist at *; omega
        have hp : (2 : Nat) ^ ((dist (f : Int) n).toNat - 1) < 2 ^ (dist (f : Int) n).toNat := Nat.pow_lt_pow_right (by omega) (by omega)
        refine Nat.lt_of_lt_of_le (Nat.or_lt_two_pow (Nat.lt_trans hmn hp) hp) (Nat.pow_le_pow_right (by omega) hlt)
theorem take_lost0 (f : Nat) (t : List Int) (hup : Up ((f : Int) :: t)) : lostPart f (takeMask f 0 t).1 16 ++ (takeMask f 0 t).2 = (f : Int) :: t := by
  rw [take_lost f t 0 hup fun x _ => Nat.two_pow_pos _]
  have : lostPart f 0 16 = [(f : Int)] := by
    have := lost_high f 0 0 (fun i _ => Nat.zero_testBit i) 16
    simpa [lostPart_zero] using this
  rw [this]
  rfl
theorem take_rest (f : Int) (t : List Int) : ∀ m, (takeMask f m t).2 = t.dropWhile fun x => decide (dist f x ≤ 16) := by
  induction t with
  | nil => intro m; rfl
  | cons n t ih =>
    intro m
    unfold takeMask
    by_cases h16 : dist f n > 16
    · rw [if_pos h16, List.dropWhile_cons_of_neg (by simpa using h16)]
    · rw [if_neg h16, List.dropWhile_cons_of_pos (by simpa using h16)]
      exact ih _
theorem take_up (f : Int) (t : List Int) (m : Nat) (h : Up t) : Up (takeMask f m t).2 := by
  rw [take_rest]; exact h.sub (List.dropWhile_sublist _)

/-! ### how many entries -/
def cnt : Nat → List Int → Nat
  | 0, _ => 0
  | _ + 1, [] => 0
  | k + 1, f :: t => 1 + cnt k (takeMask f 0 t).2
theorem entBits_cnt (k : Nat) : ∀ l, (entBits k l).length = 32 * cnt k l := by
  induction k with
  | zero => intro l; simp [entBits, cnt]
  | succ k ih =>
    intro l
    cases l with
    | nil => simp [entBits, cnt]
    | cons f t => simp only [entBits, cnt, List.length_append, toBits_length, ih]; omega
theorem cnt_le (k : Nat) : ∀ l, cnt k l ≤ l.length := by
  induction k with
  | zero => intro l; simp [cnt]
  | succ k ih =>
    intro l
    cases l with
    | nil => simp [cnt]
    | cons f t =>
      have h1 := ih (takeMask f 0 t).2
      have h2 := takeMask_length f 0 t
      simp only [cnt, List.length_cons]; omega
theorem cnt_more : ∀ n k k' (l : List Int), l.length ≤ n → l.length ≤ k → l.length ≤ k' → cnt k l = cnt k' l := by
  intro n
  induction n with
  | zero =>
    intro k k' l h0 h1 h2
    have : l = [] := List.eq_nil_of_length_eq_zero (by omega)
    subst this
    cases k <;> cases k' <;> rfl
  | succ n ih =>
    intro k k' l h0 h1 h2
    cases l with
    | nil => cases k <;> cases k' <;> rfl
    | cons f t =>
      simp only [List.length_cons] at h0 h1 h2
      obtain ⟨k, rfl⟩ : ∃ m, k = m + 1 := ⟨k - 1, by omega⟩
      obtain ⟨k', rfl⟩ : ∃ m, k' = m + 1 := ⟨k' - 1, by omega⟩
      have h3 := takeMask_length f 0 t
      simp only [cnt]
      rw [ih k k' (takeMask f 0 t).2 (by omega) (by omega) (by omega)]
/-- The number of entries of a list. -/
def ents (l : List Int) : Nat := cnt l.length l
theorem ents_cons (f : Int) (t : List Int) : ents (f :: t) = 1 + ents (t.dropWhile fun x => decide (dist f x ≤ 16)) := by
  unfold ents
  have h3 := takeMask_length f 0 t
  simp only [List.length_cons, cnt, take_rest] at h3 ⊢
  rw [cnt_more t.length t.length _ _ h3 h3 (Nat.le_refl _)]
theorem drop_suffix {p p' : Int → Bool} (l' : List Int) (h : ∀ x ∈ l', p x = true → p' x = true) : ∀ a : List Int, l'.dropWhile p' <:+ (a ++ l').dropWhile p := by
  have h0 : l'.dropWhile p' <:+ l'.dropWhile p := by
    induction l' with
    | nil => exact List.suffix_refl _
    | cons x t ih =>
      by_cases hp : p x = true
      · rw [List.dropWhile_cons_of_pos hp, List.dropWhile_cons_of_pos (h x List.mem_cons_self hp)]
        exact ih fun y hy => h y (List.mem_cons_of_mem _ hy)
      · rw [List.dropWhile_cons_of_neg hp]
        exact List.dropWhile_suffix _
  intro a
  induction a with
  | nil => exact h0
  | cons x a ih =>
    by_cases hp : p x = true
    · rw [List.cons_append, List.dropWhile_cons_of_pos hp]; exact ih
    · rw [List.cons_append, List.dropWhile_cons_of_neg hp]
      exact (List.dropWhile_suffix _).trans ((List.suffix_append a l').trans (List.suffix_cons x _))
theorem ents_suffix : ∀ n (l l' : List Int), l.length ≤ n → Up l → l' <:+ l → ents l' ≤ ents l := by
  intro n
  induction n with
  | zero =>
    intro l l' hn _ hs
    have h1 := hs.length_le
    have : l' = [] := List.eq_nil_of_length_eq_zero (by omega)
    subst this
    exact Nat.zero_le _
  | succ n ih =>
    intro l l' hn hup hs
    cases l' with
    | nil => exact Nat.zero_le _
    | cons f' t' =>
      cases l with
      | nil => have := hs.length_le; simp at this
      | cons f t =>
        rcases List.suffix_cons_iff.1 hs with h | h
        · rw [h]; exact Nat.le_refl _
        · rw [ents_cons, ents_cons]
          obtain ⟨a, ha⟩ := h
          have hup' := hup.tail
          refine Nat.add_le_add_left (ih _ _ ?_ (hup'.sub (List.dropWhile_sublist _)) ?_) 1
          · have := (List.dropWhile_sublist (fun x => decide (dist f x ≤ 16)) (l := t)).length_le
            simp only [List.length_cons] at hn; omega
          · have hsu := drop_suffix (p := fun x => decide (dist f x ≤ 16)) (p' := fun x => decide (dist f' x ≤ 16)) t' (fun x hx hp => ?_) (a ++ [f'])
            · rw [List.append_assoc] at hsu
              simp only [List.singleton_append] at hsu
              rw [ha] at hsu
              exact hsu
            · simp only [decide_eq_true_eq] at hp ⊢
              have h1 : 1 ≤ dist f f' ∧ dist f f' < 32768 := hup.head.2 f' (by rw [← ha]; simp)
              have h2 : Up (f' :: t') := hup'.sub (by rw [← ha]; exact List.sublist_append_right _ _)
              have h3 := h2.head.2 x hx
              unfold dist at *
              omega
theorem ents_part (f m : Nat) (rest : List Int) (hup : Up (lostPart f m 16 ++ rest)) : ents (lostPart f m 16 ++ rest) ≤ 1 + ents rest := by
  have e : lostPart f m 16 = (f : Int) :: (lostPart f m 16).tail := rfl
  rw [e, List.cons_append, ents_cons]
  have hall : ∀ x ∈ (lostPart f m 16).tail, decide (dist (f : Int) x ≤ 16) = true := by
    intro x hx
    simp only [lostPart, List.tail_cons, List.mem_map, List.mem_filter, List.mem_range] at hx
    obtain ⟨i, ⟨hi, _⟩, rfl⟩ := hx
    simp only [decide_eq_true_eq]
    unfold dist
    omega
  rw [List.dropWhile_append_of_pos hall]
  exact Nat.add_le_add_left (ents_suffix _ _ _ (Nat.le_refl _) (hup.sub (List.sublist_append_right _ _)) (List.dropWhile_suffix _)) 1
theorem ents_all (s : ByteArray) : ∀ js : List Nat, Up (js.flatMap (lostAt s)) → ents (js.flatMap (lostAt s)) ≤ js.length := by
  intro js
  induction js with
  | nil => intro _; exact Nat.zero_le _
  | cons j js ih =>
    intro hup
    rw [List.flatMap_cons] at hup ⊢
    have h1 := ents_part (rdBits s (64 + 32 * j) 16) (rdBits s (80 + 32 * j) 16) (js.flatMap (lostAt s)) hup
    have h2 := ih (hup.sub (List.sublist_append_right _ _))
    rw [List.length_cons]
    unfold lostAt at *
    omega

/-! ### encoded and decoded -/
theorem lost_ent (L pre : List Bool) (hpre : pre.length = 64) : ∀ k (l : List Int) (done : List Bool), l.length ≤ k → Up l → L = pre ++ done ++ entBits k l → ∀ j, done.length = 32 * j →
    (List.range' j (cnt k l)).flatMap (lostAt (txt L)) = l := by
  intro k
  induction k with
  | zero =>
    intro l done hl _ _ j _
    have : l = [] := List.eq_nil_of_length_eq_zero (by omega)
    subst this
    rfl
  | succ k ih =>
    intro l done hl hup hL j hj
    cases l with
    | nil => rfl
    | cons f t =>
      have hf0 := hup.head.1
      obtain ⟨fn, rfl⟩ : ∃ n : Nat, f = (n : Int) := ⟨f.toNat, by omega⟩
      have hmk := takeMask_lt (fn : Int) 0 t (by omega)
      have htl := takeMask_length (fn : Int) 0 t
      have htk := take_lost0 fn t hup
      have htu := take_up (fn : Int) t 0 hup.tail
      simp only [entBits, Int.toNat_natCast] at hL
      simp only [cnt]
      obtain ⟨mk, hmk'⟩ : ∃ mk, (takeMask (fn : Int) 0 t).1 = mk := ⟨_, rfl⟩
      obtain ⟨rest, hrest⟩ : ∃ rest, (takeMask (fn : Int) 0 t).2 = rest := ⟨_, rfl⟩
      rw [hmk'] at hL hmk htk
      rw [hrest] at hL htl htk htu ⊢
      simp only [List.length_cons] at hl
      rw [Nat.add_comm 1, List.range'_succ, List.flatMap_cons]
      have h1 := ih rest (done ++ (toBits 16 fn ++ toBits 16 mk)) (by omega) htu (by rw [hL]; simp only [List.append_assoc]) (j + 1) (by simp only [List.length_append, toBits_length]; omega)
      rw [h1]
      unfold lostAt
      rw [rdBits_txt' L (pre ++ done) (toBits 16 mk ++ entBits k rest) fn 16 (64 + 32 * j) hL (by rw [List.length_append]; omega) (by omega),
        rdBits_txt' L (pre ++ done ++ toBits 16 fn) (entBits k rest) mk 16 (80 + 32 * j) (by rw [hL]; simp only [List.append_assoc]) (by simp only [List.length_append, toBits_length]; omega) (by omega)]
      exact htk
theorem nackBits_length (s m : Nat) (l : List Int) : (nackBits s m l).length = 64 + 32 * ents l := by
  unfold nackBits ents
  simp only [List.length_append, toBits_length, entBits_cnt]
theorem ents_pos (l : List Int) (h : 0 < l.length) : 1 ≤ ents l := by
  cases l with
  | nil => simp at h
  | cons f t => rw [ents_cons]; omega
theorem ents_le (l : List Int) : ents l ≤ l.length := cnt_le _ _
theorem enc_size (s m : Nat) (l : List Int) : (txt (nackBits s m l)).size = 8 + 4 * ents l := by rw [txt_size, nackBits_length]; omega
/-- What was encoded is decoded as it was. -/
theorem dec_enc (s m : Nat) (hs : s < 4294967296) (hm : m < 4294967296) (l : List Int) (hg : goodB l = true) : nackDec (txt (nackBits s m l)) = ((s : Int), (m : Int), l, 0) := by
  obtain ⟨hup, h0, h1⟩ := goodB_up l hg
  have he := ents_pos l h0
  have hel := ents_le l
  have hsz := enc_size s m l
  have hlost : lostAll (txt (nackBits s m l)) (ents l) = l := by
    have := lost_ent (nackBits s m l) (toBits 32 s ++ toBits 32 m) (by simp [toBits_length]) l.length l [] (Nat.le_refl _) hup (by unfold nackBits; simp) 0 rfl
    unfold lostAll
    rw [List.range_eq_range']
    exact this
  have hr0 : rdBits (txt (nackBits s m l)) 0 32 = s := rdBits_txt' _ [] (toBits 32 m ++ entBits l.length l) s 32 0 (by unfold nackBits; simp) rfl (by omega)
  have hr1 : rdBits (txt (nackBits s m l)) 32 32 = m := rdBits_txt' _ (toBits 32 s) (entBits l.length l) m 32 32 (by unfold nackBits; simp) (by rw [toBits_length]) (by omega)
  unfold nackDec
  rw [if_neg (by omega), if_neg (by omega), if_neg (by omega), show ((txt (nackBits s m l)).size - 8) / 4 = ents l by omega, hlost, if_neg (by omega), if_pos hg, hr0, hr1]
/-- What was decoded is encoded to no more. -/
theorem dec_cases (s : ByteArray) : ((nackDec s).2.2.2 ≠ 0 ∧ (nackDec s).2.2.1 = []) ∨ ∃ S M : Nat, S < 4294967296 ∧ M < 4294967296 ∧ ∃ l, nackDec s = ((S : Int), (M : Int), l, 0) ∧ goodB l = true ∧ 8 + 4 * ents l ≤ s.size := by
  unfold nackDec
  split
  · exact .inl ⟨by decide, rfl⟩
  rename_i c1
  split
  · exact .inl ⟨by decide, rfl⟩
  rename_i c2
  split
  · exact .inl ⟨by decide, rfl⟩
  rename_i c3
  split
  · exact .inl ⟨by decide, rfl⟩
  split
  · rename_i c4 hg
    have hup := (goodB_up _ hg).1
    refine .inr ⟨_, _, rdBits_lt s 0 32, rdBits_lt s 32 32, _, rfl, hg, ?_⟩
    have := ents_all s (List.range ((s.size - 8) / 4)) hup
    rw [List.length_range] at this
    unfold lostAll
    omega
  · exact .inl ⟨by decide, rfl⟩

/-! ### good lists -/
theorem goodTail_of (l0 : Int) (h0 : 0 ≤ l0 ∧ l0 < 65536) (t : List Int) : ∀ p, (0 ≤ p ∧ p < 65536) → (∀ x ∈ t, (0 ≤ x ∧ x < 65536) ∧ dist l0 p < dist l0 x ∧ dist l0 x < 32768) → (t.Pairwise fun a b => dist l0 a < dist l0 b) → goodTail l0 p t = true := by
  induction t with
  | nil => intro _ _ _ _; rfl
  | cons n t ih =>
    intro p hp h hw
    have hn := h n List.mem_cons_self
    obtain ⟨w1, w2⟩ := List.pairwise_cons.1 hw
    simp only [goodTail, Bool.and_eq_true]
    refine ⟨(after16_iff _ _).2 ⟨hn.1, hp, ?_⟩, (after16_iff _ _).2 ⟨hn.1, h0, ?_⟩, ih n hn.1 (fun x hx => ⟨(h x (List.mem_cons_of_mem _ hx)).1, w1 x hx, (h x (List.mem_cons_of_mem _ hx)).2.2⟩) w2⟩
    · have := hn.2; unfold dist at this; omega
    · have := hn.2; unfold dist at this; omega
theorem goodB_of (f : Nat) (hf : f < 65536) (t : List Int) (hl : t.length < 4096) (ds : List Nat) (hd : ∀ d ∈ ds, d < 32767) (hw : ds.Pairwise (· < ·)) (ht : t = ds.map fun d => (((f + d + 1) % 65536 : Nat) : Int)) : goodB ((f : Int) :: t) = true := by
  simp only [goodB, Bool.and_eq_true, decide_eq_true_eq]
  refine ⟨by omega, by omega, hl, goodTail_of _ (by omega) _ _ (by omega) ?_ ?_⟩
  · intro x hx
    rw [ht, List.mem_map] at hx
    obtain ⟨d, hd', rfl⟩ := hx
    have := hd d hd'
    unfold dist
    omega
  · rw [ht, List.pairwise_map]
    refine hw.imp_of_mem fun {a b} ha hb hab => ?_
    have h1 := hd a ha
    have h2 := hd b hb
    unfold dist
    omega
theorem goodB_lost (f m : Nat) (hf : f < 65536) : goodB (lostPart f m 16) = true := by
  refine goodB_of f hf _ ?_ ((List.range 16).filter fun i => m.testBit i) ?_ ?_ rfl
  · have := List.length_filter_le (fun i => m.testBit i) (List.range 16)
    rw [List.length_range] at this
    rw [List.length_map]
    omega
  · intro d hd
    have := (List.mem_filter.1 hd).1
    rw [List.mem_range] at this
    omega
  · exact List.pairwise_lt_range.sublist List.filter_sublist
theorem lost_mem (f m i : Nat) (hi : i < 16) : ((((f + i + 1) % 65536 : Nat) : Int) ∈ (lostPart f m 16).tail) ↔ m.testBit i = true := by
  simp only [lostPart, List.tail_cons, List.mem_map, List.mem_filter, List.mem_range]
  constructor
  · rintro ⟨j, ⟨hj, hb⟩, he⟩
    have : j = i := by omega
    rw [← this]; exact hb
  · intro hb
    exact ⟨i, ⟨hi, hb⟩, rfl⟩
theorem lost_inj (f m m' : Nat) (hm : m < 65536) (hm' : m' < 65536) (h : lostPart f m 16 = lostPart f m' 16) : m = m' := by
  apply Nat.eq_of_testBit_eq
  intro i
  by_cases hi : i < 16
  · have h1 := lost_mem f m i hi
    rw [h, lost_mem f m' i hi] at h1
    cases e1 : m.testBit i <;> cases e2 : m'.testBit i <;> simp_all
  · rw [Nat.testBit_lt_two_pow (Nat.lt_of_lt_of_le hm (Nat.pow_le_pow_right (n := 2) (by omega) (show 16 ≤ i by omega))), Nat.testBit_lt_two_pow (Nat.lt_of_lt_of_le hm' (Nat.pow_le_pow_right (n := 2) (by omega) (show 16 ≤ i by omega)))]
/-- What one entry tells takes that entry. -/
theorem ent_lost (f m : Nat) (hf : f < 65536) (hm : m < 65536) : entBits (lostPart f m 16).length (lostPart f m 16) = toBits 16 f ++ toBits 16 m := by
  have hup := (goodB_up _ (goodB_lost f m hf)).1
  have e : lostPart f m 16 = (f : Int) :: (lostPart f m 16).tail := rfl
  obtain ⟨t, ht⟩ : ∃ t, (lostPart f m 16).tail = t := ⟨_, rfl⟩
  have hall : ∀ x ∈ t, decide (dist (f : Int) x ≤ 16) = true := by
    intro x hx
    rw [← ht] at hx
    simp only [lostPart, List.tail_cons, List.mem_map, List.mem_filter, List.mem_range] at hx
    obtain ⟨i, ⟨hi, _⟩, rfl⟩ := hx
    simp only [decide_eq_true_eq]
    unfold dist
    omega
  rw [ht] at e
  rw [e] at hup ⊢
  have h1 := take_lost0 f t hup
  have h2 := takeMask_lt (f : Int) 0 t (by omega)
  have h3 : (takeMask (f : Int) 0 t).2 = [] := by
    rw [take_rest]
    have := List.dropWhile_append_of_pos (l₂ := []) hall
    simpa using this
  rw [h3, List.append_nil, ← e] at h1
  have h4 := lost_inj f _ _ h2 hm h1
  simp only [List.length_cons, entBits, Int.toNat_natCast, h3, h4]
  cases t.length <;> simp [entBits]
/-- Numbers that stand together. -/
def run (f k : Nat) : List Int := (List.range k).map fun i => (((f + i) % 65536 : Nat) : Int)
theorem run_succ (f k : Nat) : run f (k + 1) = run f k ++ [(((f + k) % 65536 : Nat) : Int)] := by simp [run, List.range_succ]
theorem run_cons (f k : Nat) (hf : f < 65536) : run f (k + 1) = (f : Int) :: run ((f + 1) % 65536) k := by
  unfold run
  rw [List.range_succ_eq_map, List.map_cons, List.map_map]
  refine List.cons_eq_cons.2 ⟨by omega, List.map_congr_left fun i _ => ?_⟩
  simp only [Function.comp]
  omega
theorem goodB_run (f k : Nat) (hf : f < 65536) (h1 : 1 ≤ k) (h2 : k ≤ 4096) : goodB (run f k) = true := by
  obtain ⟨k, rfl⟩ : ∃ j, k = j + 1 := ⟨k - 1, by omega⟩
  rw [run_cons f k hf]
  refine goodB_of f hf _ (by simp [run]; omega) (List.range k) (fun d hd => by rw [List.mem_range] at hd; omega) List.pairwise_lt_range ?_
  unfold run
  refine List.map_congr_left fun i _ => ?_
  omega
theorem run_drop (f : Nat) : ∀ (a g k : Nat), (g < 65536) → dist f g = (16 - a + 1 : Nat) → a ≤ 16 → k + 16 - a + 1 < 32768 → (run g k).dropWhile (fun x => decide (dist (f : Int) x ≤ 16)) = run ((g + min a k) % 65536) (k - a) := by
  intro a
  induction a with
  | zero =>
    intro g k hg hd _ hk
    cases k with
    | zero => simp [run]
    | succ k =>
      rw [run_cons g k hg, List.dropWhile_cons_of_neg (by simp only [decide_eq_true_eq]; omega), ← run_cons g k hg]
      simp only [Nat.zero_min, Nat.add_zero, Nat.sub_zero]
      rw [Nat.mod_eq_of_lt hg]
  | succ a ih =>
    intro g k hg hd ha hk
    cases k with
    | zero => simp [run]
    | succ k =>
      rw [run_cons g k hg, List.dropWhile_cons_of_pos (by simp only [decide_eq_true_eq]; omega)]
      rw [ih ((g + 1) % 65536) k (by omega) (by unfold dist at *; omega) (by omega) (by omega)]
      rw [show k + 1 - (a + 1) = k - a by omega]
      congr 1
      omega
theorem ents_run : ∀ n (f k : Nat), k ≤ n → f < 65536 → k ≤ 4096 → ents (run f k) = (k + 16) / 17 := by
  intro n
  induction n with
  | zero =>
    intro f k h _ _
    obtain rfl : k = 0 := by omega
    rfl
  | succ n ih =>
    intro f k h hf hk
    cases k with
    | zero => rfl
    | succ k =>
      rw [run_cons f k hf, ents_cons, run_drop f 16 ((f + 1) % 65536) k (by omega) (by unfold dist; omega) (by omega) (by omega), ih _ _ (by omega) (by omega) (by omega)]
      omega
/-- The body of a good list: how long it is, and what it tells. -/
theorem enc_dec (s m : Nat) (hs : s < 4294967296) (hm : m < 4294967296) (l : List Int) (hg : goodB l = true) : ∃ T : ByteArray, nackEnc (s : Int) (m : Int) l = (T, 0) ∧ T.size = 8 + 4 * ents l ∧ nackDec T = ((s : Int), (m : Int), l, 0) := by
  refine ⟨txt (nackBits s m l), ?_, enc_size s m l, dec_enc s m hs hm l hg⟩
  unfold nackEnc
  rw [if_pos hg]
  rfl
theorem byte_at (j : Nat) (pre post : List Bool) (v : Nat) (hp : pre.length = 8 * j) (hv : v < 256) : byteAt (pre ++ (toBits 8 v ++ post)) j = v := by
  unfold byteAt
  have : ((List.range 8).map fun i => (pre ++ (toBits 8 v ++ post)).getD (8 * j + i) false) = toBits 8 v := by
    apply List.ext_getElem
    · simp [toBits_length]
    · intro i h1 h2
      rw [toBits_length] at h2
      rw [List.getElem_map, List.getElem_range, List.getD_eq_getElem?_getD, List.getElem?_append_right (by omega), show 8 * j + i - pre.length = i by omega, List.getElem?_append_left (by rw [toBits_length]; omega), List.getElem?_eq_getElem (by rw [toBits_length]; omega)]
      rfl
  rw [this, valOf_toBits]
  exact Nat.mod_eq_of_lt hv
theorem flat_length (us : List Nat) : (us.flatMap (toBits 8)).length = 8 * us.length := by
  induction us with
  | nil => rfl
  | cons u us ih => rw [List.flatMap_cons, List.length_append, toBits_length, ih, List.length_cons]; omega
theorem pack_flat (vs : List Nat) (hv : ∀ v ∈ vs, v < 256) : pack (vs.flatMap (toBits 8)) = vs := by
  apply List.ext_getElem
  · rw [pack_length, flat_length]; omega
  · intro j h1 h2
    have e : (pack (vs.flatMap (toBits 8)))[j] = byteAt (vs.flatMap (toBits 8)) j := by
      simp [pack]
    rw [e]
    have hsp : vs = vs.take j ++ (vs[j] :: vs.drop (j + 1)) := by rw [← List.drop_eq_getElem_cons h2, List.take_append_drop]
    have hb := byte_at j ((vs.take j).flatMap (toBits 8)) ((vs.drop (j + 1)).flatMap (toBits 8)) vs[j] (by rw [flat_length, List.length_take, Nat.min_eq_left (by omega)]) (hv _ (List.getElem_mem h2))
    rw [← hb]
    congr 1
    conv => lhs; rw [hsp, List.flatMap_append, List.flatMap_cons]
theorem bits16 (v : Nat) : toBits 16 v = toBits 8 (v / 256) ++ toBits 8 (v % 256) := by
  rw [toBits_add 8 8 (v / 256) (v % 256) (by omega)]
  congr 1
  omega
theorem bits32 (v : Nat) (hv : v < 256) : toBits 32 v = toBits 8 0 ++ (toBits 8 0 ++ (toBits 8 0 ++ toBits 8 v)) := by
  rw [toBits_add 8 8 0 v (by omega), toBits_add 8 16 0 _ (by omega), toBits_add 8 24 0 _ (by omega)]
  congr 1
  omega
theorem nums12 (f m : Nat) (hf : f < 65536) (hm : m < 65536) : ([0, 0, 0, 1, 0, 0, 0, 2, ((f : Int) / 256) % 256, (f : Int) % 256, ((m : Int) / 256) % 256, (m : Int) % 256] : List Int) = ([0, 0, 0, 1, 0, 0, 0, 2, f / 256, f % 256, m / 256, m % 256] : List Nat).map fun x : Nat => (x : Int) := by
  have e1 : ((f : Int) / 256) % 256 = ((f / 256 : Nat) : Int) := by omega
  have e2 : (f : Int) % 256 = ((f % 256 : Nat) : Int) := by omega
  have e3 : ((m : Int) / 256) % 256 = ((m / 256 : Nat) : Int) := by omega
  have e4 : (m : Int) % 256 = ((m % 256 : Nat) : Int) := by omega
  rw [e1, e2, e3, e4]
  rfl
/-- The twelve bytes of one entry. -/
theorem bytes12 (f m : Nat) (hf : f < 65536) (hm : m < 65536) : strOfNums ([0, 0, 0, 1, 0, 0, 0, 2, ((f : Int) / 256) % 256, (f : Int) % 256, ((m : Int) / 256) % 256, (m : Int) % 256] : List Int) = txt (nackBits 1 2 (lostPart f m 16)) := by
  unfold txt nackBits
  rw [ent_lost f m hf hm, nums12 f m hf hm]
  unfold packI
  have hk := pack_flat [0, 0, 0, 1, 0, 0, 0, 2, f / 256, f % 256, m / 256, m % 256] (by
    intro v hv
    simp only [List.mem_cons, List.not_mem_nil, or_false] at hv
    omega)
  have hb : toBits 32 1 ++ toBits 32 2 ++ (toBits 16 f ++ toBits 16 m) = ([0, 0, 0, 1, 0, 0, 0, 2, f / 256, f % 256, m / 256, m % 256] : List Nat).flatMap (toBits 8) := by
    rw [bits32 1 (by omega), bits32 2 (by omega), bits16 f, bits16 m]
    simp only [List.flatMap_cons, List.flatMap_nil, List.append_assoc, List.append_nil]
  rw [hb, hk]
/-- What one entry's twelve bytes tell, and that they are told so again. -/
theorem mask_all (f m : Nat) (hf : f < 65536) (hm : m < 65536) : ∃ (s : ByteArray) (L : List Int), lostPart f m 16 = L ∧ L.length ≤ 17 ∧ s.size ≤ 1000 ∧ strOfNums ([0, 0, 0, 1, 0, 0, 0, 2, ((f : Int) / 256) % 256, (f : Int) % 256, ((m : Int) / 256) % 256, (m : Int) % 256] : List Int) = s ∧ nackDec s = (1, 2, L, 0) ∧ nackEnc 1 2 L = (s, 0) := by
  have hg := goodB_lost f m hf
  obtain ⟨L, hL⟩ : ∃ L, lostPart f m 16 = L := ⟨_, rfl⟩
  have hb := bytes12 f m hf hm
  have hll : L.length ≤ 17 := by rw [← hL]; exact lostPart_length f m 16
  rw [hL] at hg hb
  have hel := ents_le L
  have hdec := dec_enc 1 2 (by decide) (by decide) L hg
  have hes := enc_size 1 2 L
  have henc : nackEnc ((1 : Nat) : Int) ((2 : Nat) : Int) L = (txt (nackBits 1 2 L), 0) := by
    unfold nackEnc
    rw [if_pos hg]
    rfl
  obtain ⟨s, hs⟩ : ∃ s, txt (nackBits 1 2 L) = s := ⟨_, rfl⟩
  rw [hs] at hb hdec hes henc
  exact ⟨s, L, hL, hll, by omega, hb, hdec, henc⟩
end Go.Proofs.Ytnllbldfganfgaa.B
