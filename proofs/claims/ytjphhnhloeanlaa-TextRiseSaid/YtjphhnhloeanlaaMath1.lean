/- Plain facts on texts: what a numeral comes to, for the program and for the document; names; numerals that are written out. -/
import Derived.Test.YtjphhnhloeanlaaPx5
import Derived.Test.YtjphhnhloeanlaaPx7
import Derived.Test.YtjphhnhloeanlaaPx8
import Derived.Test.YtjphhnhloeanlaaPx9
import Derived.OpenShut
namespace Go.Proofs.Ytjphhnhloeanlaa.Pure
set_option linter.unusedSimpArgs false
set_option linter.unusedVariables false
open Go.RowKit Go.Proofs.Ytjphhnhloeanlaa.P Go.Proofs.YtjphhnhloeanlaaW.PrintWords Go.Proofs.YtjphhnhloeanlaaW.PrintLast Go.Proofs.YtjphhnhloeanlaaW.PrintMore

theorem wrap64_u {x : Int} (h0 : -4611686018427387904 ≤ x) (h1 : x ≤ 4611686018427387904) : wrap64 x = x := by unfold wrap64; omega
theorem u16_wrap (n : Int) : IntKind.u16.wrap n = n % 65536 := by simp [IntKind.wrap, IntKind.bits, IntKind.signed]
theorem toList_nil (s : ByteArray) : s.toList = ([] : List UInt8) ↔ s.size = 0 := by
  rw [ByteArray.toList_eq]
  constructor
  · intro h; have := data_length s; rw [h] at this; simpa using this.symm
  · intro h; have := data_length s; rw [h] at this; exact List.eq_nil_of_length_eq_zero this
/-- A text by its bytes. -/
theorem toList_bytes (s : ByteArray) (l : List UInt8) : s.toList = l ↔ bytesOf s = l.map fun b => (b.toNat : Int) := by
  rw [ByteArray.toList_eq]
  unfold bytesOf
  constructor
  · intro h; rw [h]
  · intro h
    exact (List.map_inj_right (fun a b hab => UInt8.toNat_inj.1 (by omega))).1 h
theorem toList_same (s t : ByteArray) : s.toList = t.toList ↔ bytesOf s = bytesOf t := by
  rw [toList_bytes, ByteArray.toList_eq]; rfl
theorem size_bytes (s : ByteArray) : (s.size : Int) = ((bytesOf s).length : Int) := by rw [bytesOf_length]
theorem bytes_extract (s : ByteArray) (i : Nat) : bytesOf (s.extract i s.size) = (bytesOf s).drop i := by
  unfold bytesOf
  rw [← List.map_drop]
  congr 1
  rw [ByteArray.data_extract, Array.toList_extract, List.extract_eq_take_drop, List.take_of_length_le]
  rw [List.length_drop, data_length]; omega
theorem bytes_append (s t : ByteArray) : bytesOf (s ++ t) = bytesOf s ++ bytesOf t := by
  unfold bytesOf; rw [ByteArray.data_append, Array.toList_append, List.map_append]
theorem bytes_range (s : ByteArray) : ∀ c ∈ bytesOf s, 0 ≤ c ∧ c ≤ 255 := by
  intro c hc
  unfold bytesOf at hc
  obtain ⟨b, _, rfl⟩ := List.mem_map.1 hc
  have := b.toNat_lt
  omega
theorem bytes_str (l : List Int) (h : ∀ c ∈ l, 0 ≤ c ∧ c ≤ 255) : bytesOf (strOfNums l) = l := by
  unfold bytesOf strOfNums
  simp only [List.toList_toArray, List.map_map]
  conv => rhs; rw [← List.map_id l]
  refine List.map_congr_left fun c hc => ?_
  have := h c hc
  simp only [Function.comp, UInt8.toNat_ofNat', id]
  omega

/-! ### a digit's number -/
def dv (c : Int) : Int := if 48 ≤ c ∧ c ≤ 57 then c - 48 else if 97 ≤ c ∧ c ≤ 102 then c - 87 else 99
theorem dv_lt {c : Int} : 0 ≤ dv c := by unfold dv; split <;> (try split) <;> omega
def DG : ByteArray := ⟨#[48, 49, 50, 51, 52, 53, 54, 55, 56, 57, 97, 98, 99, 100, 101, 102]⟩
theorem bt_DG (i : Int) (h0 : 0 ≤ i) (h1 : i < 16) : bt DG i = if i < 10 then 48 + i else 87 + i := by
  obtain ⟨n, rfl⟩ := Int.eq_ofNat_of_zero_le h0
  have : n < 16 := by omega
  revert this
  clear h0 h1
  revert n
  decide +kernel
theorem dg_eq (i c : Int) (h0 : 0 ≤ i) (h1 : i < 16) : bt DG i = c ↔ dv c = i := by
  rw [bt_DG i h0 h1]; unfold dv; repeat' split
  all_goals omega
theorem value_loop (c base : Int) (hb : base ≤ 16) (d : Nat) : ∀ k (i : Int), 0 ≤ i → i + d = base → i ≤ dv c → d < k → text_value.l0 k c base i = some (if dv c < base then (dv c, true) else (0, false)) := by
  induction d with
  | zero =>
    intro k i h0 hi hd hk
    obtain ⟨k, rfl⟩ : ∃ m, k = m + 1 := ⟨k - 1, by omega⟩
    simp only [text_value.l0]
    rw [if_neg (by omega), if_neg (by omega)]
  | succ d ih =>
    intro k i h0 hi hd hk
    obtain ⟨k, rfl⟩ : ∃ m, k = m + 1 := ⟨k - 1, by omega⟩
    simp only [text_value.l0]
    rw [if_pos (by omega), if_pos h0, if_pos (by omega)]
    have e := dg_eq i c h0 (by omega)
    unfold DG at e
    by_cases c1 : dv c = i
    · rw [if_pos (e.2 c1), if_pos (by omega), c1]
    · rw [if_neg (mt e.1 c1), wrap64_u (by omega) (by omega)]
      exact ih k (i + 1) (by omega) (by omega) (by omega) (by omega)
theorem text_value_eq (c base : Int) (h0 : 0 ≤ base) (hb : base ≤ 16) (k : Nat) (hk : 16 < k) : text_value.f k c base = some (if dv c < base then (dv c, true) else (0, false)) :=
  value_loop c base hb base.toNat k 0 (by omega) (by omega) dv_lt (by omega)
theorem digit_loop (c : Int) (d : Nat) : ∀ k (i : Int), 0 ≤ i → i + d = 16 → i ≤ dv c → d < k → wispref02_digit.l0 k c i = some (dv c) := by
  induction d with
  | zero =>
    intro k i h0 hi hd hk
    obtain ⟨k, rfl⟩ : ∃ m, k = m + 1 := ⟨k - 1, by omega⟩
    simp only [wispref02_digit.l0]
    rw [if_neg (by omega)]
    congr 1
    unfold dv at hd ⊢
    repeat' split at hd
    all_goals (repeat' split)
    all_goals omega
  | succ d ih =>
    intro k i h0 hi hd hk
    obtain ⟨k, rfl⟩ : ∃ m, k = m + 1 := ⟨k - 1, by omega⟩
    simp only [wispref02_digit.l0]
    rw [if_pos (by omega), if_pos h0]
    have e := dg_eq i c h0 (by omega)
    unfold DG at e
    by_cases c1 : dv c = i
    · rw [if_pos (e.2 c1), c1]
    · rw [if_neg (mt e.1 c1), wrap64_u (by omega) (by omega)]
      exact ih k (i + 1) (by omega) (by omega) (by omega) (by omega)
theorem ref_digit_eq (c : Int) (k : Nat) (hk : 16 < k) : wispref02_digit.f k c = some (dv c) :=
  digit_loop c 16 k 0 (by omega) (by omega) dv_lt hk
/-! ### a numeral's digits: the number, at most 65536 (the program) or a million (the document) -/
def acc (cap base : Int) : Int → List Int → Option Int
  | n, [] => some n
  | n, c :: r => if dv c < base then acc cap base (if cap < n * base + dv c then cap else n * base + dv c) r else none
theorem acc_none (cap cap' base : Int) : ∀ (l : List Int) (n m : Int), acc cap base n l = none ↔ acc cap' base m l = none
  | [], n, m => by simp [acc]
  | c :: r, n, m => by
    simp only [acc]
    by_cases h : dv c < base
    · rw [if_pos h, if_pos h]; exact acc_none cap cap' base r _ _
    · simp [h]
theorem acc_cap {base : Int} (hb : 2 ≤ base) (hb2 : base ≤ 16) : ∀ (l : List Int) (n m x y : Int), 0 ≤ n → n ≤ 65536 → 0 ≤ m → m ≤ 1000000 → n = (if 65536 < m then 65536 else m) → acc 65536 base n l = some x → acc 1000000 base m l = some y → x = (if 65536 < y then 65536 else y) ∧ 0 ≤ y ∧ y ≤ 1000000
  | [], n, m, x, y, h0, h1, h2, h3, h4, hx, hy => by
    simp only [acc, Option.some.injEq] at hx hy
    subst hx; subst hy; exact ⟨h4, h2, h3⟩
  | c :: r, n, m, x, y, h0, h1, h2, h3, h4, hx, hy => by
    simp only [acc] at hx hy
    by_cases h : dv c < base
    · rw [if_pos h] at hx hy
      have hd := dv_lt (c := c)
      have m1 : 0 ≤ m * base := Int.mul_nonneg h2 (by omega)
      have n1 : 0 ≤ n * base := Int.mul_nonneg h0 (by omega)
      refine acc_cap hb hb2 r _ _ x y ?_ ?_ ?_ ?_ ?_ hx hy
      · split <;> omega
      · split <;> omega
      · split <;> omega
      · split <;> omega
      · by_cases g : 65536 < m
        · rw [if_pos g] at h4
          subst h4
          have m2 : 65536 * base ≤ m * base := Int.mul_le_mul_of_nonneg_right (by omega) (by omega)
          generalize m * base = z at *
          have : 65536 * 2 ≤ 65536 * base := by omega
          generalize 65536 * base = z' at *
          repeat' split
          all_goals omega
        · rw [if_neg g] at h4
          subst h4
          generalize n * base = z at *
          repeat' split
          all_goals omega
    · rw [if_neg h] at hx; cases hx
theorem acc_bd {base : Int} (hb : 2 ≤ base) (hb2 : base ≤ 16) : ∀ (l : List Int) (n x : Int), 0 ≤ n → n ≤ 65536 → acc 65536 base n l = some x → 0 ≤ x ∧ x ≤ 65536
  | [], n, x, h0, h1, hx => by simp only [acc, Option.some.injEq] at hx; omega
  | c :: r, n, x, h0, h1, hx => by
    simp only [acc] at hx
    by_cases h : dv c < base
    · rw [if_pos h] at hx
      have hd := dv_lt (c := c)
      have n1 : 0 ≤ n * base := Int.mul_nonneg h0 (by omega)
      refine acc_bd hb hb2 r _ x ?_ ?_ hx <;> split <;> omega
    · rw [if_neg h] at hx; cases hx
/-- What a numeral's number comes to: its cell, or too great. -/
def fin (sign m : Int) : Int × Int := if m * sign < -32768 then (0, 21) else if m * sign > 65535 then (0, 21) else (m * sign % 65536, 0)
def num (sign base : Int) (r : List Int) : Int × Int := if r = [] then (0, 20) else match acc 65536 base 0 r with
  | none => (0, 20)
  | some m => fin sign m
def vis (c : Int) : Bool := decide (33 ≤ c) && decide (c ≤ 126)
/-- A word's cell and error. -/
def numeral (L : List Int) : Int × Int :=
  if L.length = 3 ∧ rd L 0 = 39 ∧ rd L 2 = 39 ∧ vis (rd L 1) = true then (rd L 1, 0)
  else if L = [] then (0, 20)
  else if rd L 0 = 45 then num (-1) 10 (L.drop 1)
  else if rd L 0 = 36 then num 1 16 (L.drop 1)
  else if rd L 0 = 37 then num 1 2 (L.drop 1)
  else num 1 10 L
theorem and_i64 (n : Int) (h0 : -32768 ≤ n) (h1 : n ≤ 65535) : IntKind.u16.wrap (Go.bits .and .i64 n 65535) = n % 65536 := by
  rw [u16_wrap]
  unfold Go.bits
  have e : (BitVec.ofInt 64 n &&& BitVec.ofInt 64 65535).toNat = (n % 65536).toNat := by
    rw [BitVec.toNat_and, BitVec.toNat_ofInt, BitVec.toNat_ofInt]
    rw [show ((65535 : Int) % ((2 ^ 64 : Nat) : Int)).toNat = 2 ^ 16 - 1 from rfl, Nat.and_two_pow_sub_one_eq_mod]
    omega
  show (IntKind.i64.wrap ((BitVec.ofInt 64 n &&& BitVec.ofInt 64 65535).toNat : Int)) % 65536 = _
  rw [e]
  simp only [IntKind.wrap, IntKind.bits, IntKind.signed]
  simp
  split <;> omega
theorem rd_drop (L : List Int) (i : Nat) (h : i < L.length) : L.drop i = rd L i :: L.drop (i + 1) := by
  rw [List.drop_eq_getElem_cons h]
  congr 1
  simp [rd, List.getD_eq_getElem?_getD, h]
theorem numeral_loop (sign base : Int) (hs : sign = 1 ∨ sign = -1) (hb : 2 ≤ base) (hb2 : base ≤ 16) (s : ByteArray) (hz : s.size ≤ 140737488351232) (d : Nat) :
    ∀ k (i : Nat) (n : Int), i + d = s.size → 0 ≤ n → n ≤ 65536 → d + 20 < k → text_Numeral.l0 k sign base s n s.size i = some (match acc 65536 base n ((bytesOf s).drop i) with | none => (0, 20) | some m => fin sign m) := by
  induction d with
  | zero =>
    intro k i n hi h0 h1 hk
    obtain ⟨k, rfl⟩ : ∃ m, k = m + 1 := ⟨k - 1, by omega⟩
    rw [List.drop_eq_nil_of_le (by rw [bytesOf_length]; omega)]
    simp only [text_Numeral.l0, acc]
    have hm : -65536 ≤ n * sign ∧ n * sign ≤ 65536 := by rcases hs with rfl | rfl <;> omega
    rw [if_neg (by omega), wrap64_u (by omega) (by omega)]
    unfold fin
    split
    · rfl
    · split
      · rfl
      · rw [and_i64 _ (by omega) (by omega)]
  | succ d ih =>
    intro k i n hi h0 h1 hk
    obtain ⟨k, rfl⟩ : ∃ m, k = m + 1 := ⟨k - 1, by omega⟩
    have hl := bytesOf_length s
    rw [rd_drop _ i (by omega), rd_bytesOf]
    simp only [text_Numeral.l0, acc]
    have hd := dv_lt (c := bt s i)
    have n1 : 0 ≤ n * base := Int.mul_nonneg h0 (by omega)
    have n2 : n * base ≤ 65536 * 16 := Int.mul_le_mul h1 hb2 (by omega) (by omega)
    rw [if_pos (by omega), if_pos (by omega), if_pos (by omega), text_value_eq _ base (by omega) hb2 k (by omega)]
    simp only [Option.bind_some]
    by_cases c : dv (bt s i) < base
    · rw [if_pos c, if_pos c]
      simp only [if_true]
      rw [wrap64_u (x := n * base) (by omega) (by omega), wrap64_u (x := n * base + dv (bt s i)) (by omega) (by omega), wrap64_u (x := (i : Int) + 1) (by omega) (by omega)]
      have := ih k (i + 1) (mn (n * base + dv (bt s i)) 65536) (by omega) (by unfold mn; split <;> omega) (by unfold mn; split <;> omega) (by omega)
      rw [show ((i : Int) + 1) = ((i + 1 : Nat) : Int) by omega, this]
      rfl
    · rw [if_neg c, if_neg c]
      simp
theorem num_eq (sign base : Int) (hs : sign = 1 ∨ sign = -1) (hb : 2 ≤ base) (hb2 : base ≤ 16) (s : ByteArray) (hz : s.size ≤ 140737488351232) (k : Nat) (hk : s.size + 21 < k) :
    (if s.toList = ([] : List UInt8) then some ((0 : Int), (20 : Int)) else text_Numeral.l0 k sign base s 0 s.size 0) = some (num sign base (bytesOf s)) := by
  unfold num
  by_cases c : s.size = 0
  · rw [if_pos ((toList_nil s).2 c), if_pos (List.eq_nil_of_length_eq_zero (by rw [bytesOf_length]; exact c))]
  · rw [if_neg (mt (toList_nil s).1 c), if_neg (fun h => c (by rw [← bytesOf_length, h]; rfl))]
    exact numeral_loop sign base hs hb hb2 s hz s.size k 0 0 (by omega) (by omega) (by omega) (by omega)
theorem text_visible_eq (c : Int) : text_visible.f c = some (vis c) := by
  unfold text_visible.f vis
  split
  · simp [*]
  · have : ¬ 33 ≤ c := by omega
    simp [this]
theorem Numeral_j0 (s : ByteArray) (hz : s.size ≤ 140737488351232) (k : Nat) (hk : s.size + 23 < k) : text_Numeral.j0 k s false = some (if bytesOf s = [] then (0, 20) else if bt s 0 = 45 then num (-1) 10 ((bytesOf s).drop 1) else if bt s 0 = 36 then num 1 16 ((bytesOf s).drop 1) else if bt s 0 = 37 then num 1 2 ((bytesOf s).drop 1) else num 1 10 (bytesOf s)) := by
  obtain ⟨k, rfl⟩ : ∃ m, k = m + 1 := ⟨k - 1, by omega⟩
  simp only [text_Numeral.j0, text_parts.f]
  have es : (s.extract 1 s.size).size ≤ s.size := by rw [ByteArray.size_extract]; omega
  by_cases c : s.size = 0
  · rw [if_neg (by simp), if_pos ((toList_nil s).2 c), if_pos (List.eq_nil_of_length_eq_zero (by rw [bytesOf_length]; exact c))]
    simp only [Option.bind_some]
    rw [if_pos ((toList_nil s).2 c)]
  · have hne : ¬ bytesOf s = [] := fun h => c (by rw [← bytesOf_length, h]; rfl)
    rw [if_neg (by simp), if_neg (mt (toList_nil s).1 c), if_neg hne, if_pos (show 0 < (s.size : Int) by omega)]
    by_cases c1 : bt s 0 = 45
    · rw [if_pos c1, if_pos c1, if_pos (by omega)]
      simp only [Option.bind_some]
      rw [num_eq (-1) 10 (by omega) (by omega) (by omega) _ (by omega) k (by omega), bytes_extract]
    · rw [if_neg c1, if_neg c1]
      by_cases c2 : bt s 0 = 36
      · rw [if_pos c2, if_pos c2, if_pos (by omega)]
        simp only [Option.bind_some]
        rw [num_eq 1 16 (by omega) (by omega) (by omega) _ (by omega) k (by omega), bytes_extract]
      · rw [if_neg c2, if_neg c2]
        by_cases c3 : bt s 0 = 37
        · rw [if_pos c3, if_pos c3, if_pos (by omega)]
          simp only [Option.bind_some]
          rw [num_eq 1 2 (by omega) (by omega) (by omega) _ (by omega) k (by omega), bytes_extract]
        · rw [if_neg c3, if_neg c3]
          simp only [Option.bind_some]
          rw [num_eq 1 10 (by omega) (by omega) (by omega) _ (by omega) k (by omega)]
theorem Numeral_eq (s : ByteArray) (hz : s.size ≤ 140737488351232) (k : Nat) (hk : s.size + 23 < k) : text_Numeral.f k s = some (numeral (bytesOf s)) := by
  have h0 := Numeral_j0 s hz k hk
  have ht : text_Numeral.j0 k s true = if 1 < (s.size : Int) then some (bt s 1 % 65536, 0) else none := by
    obtain ⟨k, rfl⟩ : ∃ m, k = m + 1 := ⟨k - 1, by omega⟩
    simp [text_Numeral.j0, u16_wrap]
  unfold text_Numeral.f numeral
  rw [rd_bytesOf, rd_bytesOf, rd_bytesOf, bytesOf_length]
  by_cases c : (s.size : Int) = 3
  · have c' : s.size = 3 := by omega
    rw [if_pos c, if_pos (by omega)]
    by_cases c1 : bt s 0 = 39
    · rw [if_pos c1, if_pos (by omega)]
      by_cases c2 : bt s 2 = 39
      · rw [if_pos c2, if_pos (by omega), text_visible_eq]
        simp only [Option.bind_some]
        cases hv : vis (bt s 1) with
        | true =>
          have := bt_range s 1
          rw [ht, if_pos (by omega), if_pos ⟨c', c1, c2, rfl⟩]
          congr 2
          omega
        | false => rw [h0, if_neg (by simp : ¬ (s.size = 3 ∧ bt s 0 = 39 ∧ bt s 2 = 39 ∧ false = true))]
      · rw [if_neg c2, h0, if_neg (show ¬ (s.size = 3 ∧ bt s 0 = 39 ∧ bt s 2 = 39 ∧ vis (bt s 1) = true) from fun h => c2 h.2.2.1)]
    · rw [if_neg c1, h0, if_neg (show ¬ (s.size = 3 ∧ bt s 0 = 39 ∧ bt s 2 = 39 ∧ vis (bt s 1) = true) from fun h => c1 h.2.1)]
  · rw [if_neg c, h0, if_neg (show ¬ (s.size = 3 ∧ bt s 0 = 39 ∧ bt s 2 = 39 ∧ vis (bt s 1) = true) from fun h => c (by have := h.1; omega))]
/-! ### the document's numeral -/
theorem refdigits_loop (base : Int) (hb : 2 ≤ base) (hb2 : base ≤ 16) (s : ByteArray) (hz : s.size ≤ 140737488351232) (d : Nat) :
    ∀ k (i : Nat) (n : Int), i + d = s.size → 0 ≤ n → n ≤ 1000000 → d + 20 < k → wispref02_digits.l0 k s base n i = some (match acc 1000000 base n ((bytesOf s).drop i) with | none => (0, false) | some m => (m, decide (s.size ≠ 0))) := by
  induction d with
  | zero =>
    intro k i n hi h0 h1 hk
    obtain ⟨k, rfl⟩ : ∃ m, k = m + 1 := ⟨k - 1, by omega⟩
    rw [List.drop_eq_nil_of_le (by rw [bytesOf_length]; omega)]
    simp only [wispref02_digits.l0, acc]
    rw [if_neg (by omega)]
    have e : (s.toList != ([] : List UInt8)) = decide (s.size ≠ 0) := by
      by_cases c : s.size = 0
      · rw [(toList_nil s).2 c]; simp [c]
      · have := mt (toList_nil s).1 c
        simp [c, bne, this]
    rw [e]
  | succ d ih =>
    intro k i n hi h0 h1 hk
    obtain ⟨k, rfl⟩ : ∃ m, k = m + 1 := ⟨k - 1, by omega⟩
    have hl := bytesOf_length s
    rw [rd_drop _ i (by omega), rd_bytesOf]
    simp only [wispref02_digits.l0, acc]
    have hd := dv_lt (c := bt s i)
    have n1 : 0 ≤ n * base := Int.mul_nonneg h0 (by omega)
    have n2 : n * base ≤ 1000000 * 16 := Int.mul_le_mul h1 hb2 (by omega) (by omega)
    rw [if_pos (by omega), if_pos (by omega), ref_digit_eq _ k (by omega)]
    simp only [Option.bind_some]
    have e1 : ((i : Int) + 1) = ((i + 1 : Nat) : Int) := by omega
    by_cases c : dv (bt s i) < base
    · rw [if_pos c, if_neg (by omega), wrap64_u (x := n * base) (by omega) (by omega), wrap64_u (x := n * base + dv (bt s i)) (by omega) (by omega), wrap64_u (x := (i : Int) + 1) (by omega) (by omega), e1]
      by_cases g : 1000000 < n * base + dv (bt s i)
      · rw [if_pos g, if_pos g]
        exact ih k (i + 1) 1000000 (by omega) (by omega) (by omega) (by omega)
      · rw [if_neg g, if_neg g]
        exact ih k (i + 1) _ (by omega) (by omega) (by omega) (by omega)
    · rw [if_neg c, if_pos (by omega)]
/-- How the document's number stands to the numeral. -/
def Rel (v : Int) (ok : Bool) (p : Int × Int) : Prop := (ok = false ∧ p = (0, 20)) ∨ (ok = true ∧ p = (if v < -32768 then (0, 21) else if v > 65535 then (0, 21) else (v % 65536, 0)) ∧ -1000000 ≤ v ∧ v ≤ 1000000)
theorem refdigits_eq (sign base : Int) (hs : sign = 1 ∨ sign = -1) (hb : 2 ≤ base) (hb2 : base ≤ 16) (s : ByteArray) (hz : s.size ≤ 140737488351232) (k : Nat) (hk : s.size + 21 < k) :
    ∃ y ok, wispref02_digits.f k s base = some (y, ok) ∧ 0 ≤ y ∧ y ≤ 1000000 ∧ Rel (y * sign) ok (num sign base (bytesOf s)) := by
  have h := refdigits_loop base hb hb2 s hz s.size k 0 0 (by omega) (by omega) (by omega) (by omega)
  unfold wispref02_digits.f
  rw [show (0 : Int) = ((0 : Nat) : Int) from rfl]
  rw [show ((0 : Nat) : Int) = (0 : Int) from rfl] at h ⊢
  rw [h, List.drop_zero]
  unfold num
  have hl := bytesOf_length s
  cases hx : acc 65536 base 0 (bytesOf s) with
  | none =>
    rw [(acc_none 65536 1000000 base _ 0 0).1 hx]
    exact ⟨0, false, rfl, by omega, by omega, .inl ⟨rfl, by simp⟩⟩
  | some x =>
    cases hy : acc 1000000 base 0 (bytesOf s) with
    | none => rw [(acc_none 65536 1000000 base _ 0 0).2 hy] at hx; cases hx
    | some y =>
      obtain ⟨e, h0, h1⟩ := acc_cap hb hb2 _ 0 0 x y (by omega) (by omega) (by omega) (by omega) (by simp) hx hy
      refine ⟨y, decide (s.size ≠ 0), rfl, h0, h1, ?_⟩
      by_cases c : s.size = 0
      · exact .inl ⟨by simp [c], by rw [if_pos (List.eq_nil_of_length_eq_zero (by omega))]⟩
      · refine .inr ⟨by simp [c], ?_, by rcases hs with rfl | rfl <;> omega, by rcases hs with rfl | rfl <;> omega⟩
        rw [if_neg (fun h => c (by rw [← hl, h]; rfl))]
        show fin sign x = _
        unfold fin
        rcases hs with rfl | rfl
        · by_cases g : 65536 < y
          · rw [if_pos g] at e; subst e
            rw [if_neg (by omega), if_pos (by omega), if_neg (by omega), if_pos (by omega)]
          · rw [if_neg g] at e; subst e; rfl
        · by_cases g : 65536 < y
          · rw [if_pos g] at e; subst e
            rw [if_pos (by omega), if_pos (by omega)]
          · rw [if_neg g] at e; subst e; rfl
theorem number_j0 (s : ByteArray) (hz : s.size ≤ 140737488351232) (h0 : s.size ≠ 0) (k : Nat) (hk : s.size + 23 < k) :
    ∃ v ok, wispref02_number.j0 k s false = some (v, ok) ∧ Rel v ok (if bt s 0 = 45 then num (-1) 10 ((bytesOf s).drop 1) else if bt s 0 = 36 then num 1 16 ((bytesOf s).drop 1) else if bt s 0 = 37 then num 1 2 ((bytesOf s).drop 1) else num 1 10 (bytesOf s)) := by
  obtain ⟨k, rfl⟩ : ∃ m, k = m + 1 := ⟨k - 1, by omega⟩
  have es : (s.extract 1 s.size).size ≤ s.size := by rw [ByteArray.size_extract]; omega
  simp only [wispref02_number.j0]
  rw [if_neg (by simp), if_pos (show 0 < (s.size : Int) by omega)]
  have h1 : 1 ≤ (s.size : Int) := by omega
  by_cases c2 : bt s 0 = 36
  · rw [if_pos c2, if_pos h1, if_neg (by omega), if_pos c2]
    obtain ⟨y, ok, e, _, _, r⟩ := refdigits_eq 1 16 (by omega) (by omega) (by omega) (s.extract 1 s.size) (by omega) k (by omega)
    rw [e, bytes_extract] at *
    exact ⟨y, ok, rfl, by rwa [Int.mul_one] at r⟩
  · rw [if_neg c2]
    by_cases c3 : bt s 0 = 37
    · rw [if_pos c3, if_pos h1, if_neg (by omega), if_neg c2, if_pos c3]
      obtain ⟨y, ok, e, _, _, r⟩ := refdigits_eq 1 2 (by omega) (by omega) (by omega) (s.extract 1 s.size) (by omega) k (by omega)
      rw [e, bytes_extract] at *
      exact ⟨y, ok, rfl, by rwa [Int.mul_one] at r⟩
    · rw [if_neg c3]
      by_cases c1 : bt s 0 = 45
      · rw [if_pos c1, if_pos h1, if_pos c1]
        obtain ⟨y, ok, e, y0, y1, r⟩ := refdigits_eq (-1) 10 (by omega) (by omega) (by omega) (s.extract 1 s.size) (by omega) k (by omega)
        rw [e, bytes_extract] at *
        refine ⟨-y, ok, ?_, by rwa [show y * -1 = -y by omega] at r⟩
        simp only [Option.bind_some]
        rw [wrap64_u (by omega) (by omega)]
      · rw [if_neg c1, if_neg c1, if_neg c2, if_neg c3]
        obtain ⟨y, ok, e, _, _, r⟩ := refdigits_eq 1 10 (by omega) (by omega) (by omega) s (by omega) k (by omega)
        rw [e]
        exact ⟨y, ok, rfl, by rwa [Int.mul_one] at r⟩
theorem num_other (L : List Int) (h : 0 < L.length) (hd : ¬ dv (rd L 0) < 10) : num 1 10 L = (0, 20) := by
  unfold num
  rw [if_neg (fun e => by rw [e] at h; simp at h)]
  have e := rd_drop L 0 h
  rw [List.drop_zero, show ((0 : Nat) : Int) = 0 from rfl] at e
  rw [e]
  simp only [acc]
  rw [if_neg hd]
theorem number_eq (s : ByteArray) (hz : s.size ≤ 140737488351232) (k : Nat) (hk : s.size + 23 < k) : ∃ v ok, wispref02_number.f k s = some (v, ok) ∧ Rel v ok (numeral (bytesOf s)) := by
  have ht : wispref02_number.j0 k s true = if 1 < (s.size : Int) then some (bt s 1, vis (bt s 1)) else none := by
    obtain ⟨k, rfl⟩ : ∃ m, k = m + 1 := ⟨k - 1, by omega⟩
    have := bt_range s 1
    simp only [wispref02_number.j0, if_true]
    rw [wrap64_u (by omega) (by omega)]
    unfold vis
    split
    · split
      · simp [*]
      · have : ¬ 33 ≤ bt s 1 := by omega
        simp [this]
    · rfl
  unfold wispref02_number.f numeral
  rw [rd_bytesOf, rd_bytesOf, rd_bytesOf, bytesOf_length]
  by_cases c0 : s.size = 0
  · rw [if_pos ((toList_nil s).2 c0), if_neg (by omega), if_pos (List.eq_nil_of_length_eq_zero (by rw [bytesOf_length]; exact c0))]
    exact ⟨0, false, rfl, .inl ⟨rfl, rfl⟩⟩
  · have hne : ¬ bytesOf s = [] := fun h => c0 (by rw [← bytesOf_length, h]; rfl)
    obtain ⟨v, ok, e, r⟩ := number_j0 s hz c0 k hk
    rw [if_neg (mt (toList_nil s).1 c0)]
    by_cases c : (s.size : Int) = 3
    · have c' : s.size = 3 := by omega
      rw [if_pos c, if_pos (show 0 < (s.size : Int) by omega)]
      by_cases c1 : bt s 0 = 39
      · rw [if_pos c1, if_pos (show 2 < (s.size : Int) by omega)]
        by_cases c2 : bt s 2 = 39
        · rw [show (bt s 2 == 39) = true by simp [c2], ht, if_pos (show 1 < (s.size : Int) by omega)]
          refine ⟨_, _, rfl, ?_⟩
          cases hv : vis (bt s 1) with
          | true =>
            have := bt_range s 1
            rw [if_pos ⟨c', c1, c2, rfl⟩]
            refine .inr ⟨rfl, ?_, by omega, by omega⟩
            rw [if_neg (by omega), if_neg (by omega)]
            congr 1; omega
          | false =>
            rw [if_neg (by simp : ¬ (s.size = 3 ∧ bt s 0 = 39 ∧ bt s 2 = 39 ∧ false = true)), if_neg hne, if_neg (by omega), if_neg (by omega), if_neg (by omega)]
            exact .inl ⟨rfl, num_other _ (by rw [bytesOf_length]; omega) (by rw [rd_bytesOf, c1]; decide)⟩
        · rw [show (bt s 2 == 39) = false by simp [c2], e, if_neg (show ¬ (s.size = 3 ∧ bt s 0 = 39 ∧ bt s 2 = 39 ∧ vis (bt s 1) = true) from fun h => c2 h.2.2.1), if_neg hne]
          exact ⟨v, ok, rfl, r⟩
      · rw [if_neg c1, e, if_neg (show ¬ (s.size = 3 ∧ bt s 0 = 39 ∧ bt s 2 = 39 ∧ vis (bt s 1) = true) from fun h => c1 h.2.1), if_neg hne]
        exact ⟨v, ok, rfl, r⟩
    · rw [if_neg c, e, if_neg (show ¬ (s.size = 3 ∧ bt s 0 = 39 ∧ bt s 2 = 39 ∧ vis (bt s 1) = true) from fun h => c (by have := h.1; omega)), if_neg hne]
      exact ⟨v, ok, rfl, r⟩
theorem RNumeral_eq (s : ByteArray) (hz : s.size ≤ 140737488351232) (k : Nat) (hk : s.size + 23 < k) : wispref02_Numeral.f k s = some (numeral (bytesOf s)) := by
  obtain ⟨v, ok, e, r⟩ := number_eq s hz k hk
  unfold wispref02_Numeral.f
  rw [e]
  simp only [Option.bind_some]
  obtain ⟨k, rfl⟩ : ∃ m, k = m + 1 := ⟨k - 1, by omega⟩
  rcases r with ⟨rfl, r⟩ | ⟨rfl, r, h0, h1⟩
  · rw [r]; rfl
  · rw [r, if_pos rfl]
    simp only [wispref02_Numeral.j0]
    by_cases a : v < -32768
    · rw [if_pos a, if_pos a]; simp
    · rw [if_neg a, if_neg a]
      by_cases b : v > 65535
      · rw [if_pos b, if_pos (by simp; omega)]
      · rw [if_neg b, if_neg (by simp; omega), u16_wrap, u16_wrap, wrap64_u (by omega) (by omega)]
        split
        · congr 2; omega
        · rfl
/-! ### names -/
theorem name_loop (s : ByteArray) (hz : s.size ≤ 140737488351232) (d : Nat) : ∀ k i : Nat, i + d = s.size → s.size + d + 30 < k → ∃ b, text_Name.l0 k s s.size i = some b ∧ wispref02_Name.l0 k s i = some b ∧ (b = true → (numeral (bytesOf s)).2 = 20) := by
  induction d with
  | zero =>
    intro k i hi hk
    obtain ⟨k, rfl⟩ : ∃ m, k = m + 1 := ⟨k - 1, by omega⟩
    obtain ⟨v, ok, e, r⟩ := number_eq s hz k (by omega)
    simp only [text_Name.l0, wispref02_Name.l0]
    rw [if_neg (by omega), if_neg (by omega), Numeral_eq s hz k (by omega), e]
    refine ⟨_, rfl, ?_, by simp⟩
    simp only [Option.bind_some]
    rcases r with ⟨rfl, r⟩ | ⟨rfl, r, h0, h1⟩
    · rw [r]; rfl
    · rw [r]
      split
      · rfl
      · split <;> rfl
  | succ d ih =>
    intro k i hi hk
    obtain ⟨k, rfl⟩ : ∃ m, k = m + 1 := ⟨k - 1, by omega⟩
    simp only [text_Name.l0, wispref02_Name.l0]
    rw [if_pos (by omega), if_pos (by omega), if_pos (by omega), if_pos (by omega), if_pos (by omega), text_visible_eq]
    simp only [Option.bind_some]
    have e1 : ((i : Int) + 1) = ((i + 1 : Nat) : Int) := by omega
    rw [wrap64_u (x := (i : Int) + 1) (by omega) (by omega), e1]
    cases hv : vis (bt s i) with
    | true =>
      have h2 : 33 ≤ bt s i ∧ bt s i ≤ 126 := by simpa [vis] using hv
      rw [if_pos (rfl : true = true), if_neg (show ¬ bt s i < 33 by omega), if_neg (show ¬ bt s i > 126 by omega)]
      exact ih k (i + 1) (by omega) (by omega)
    | false =>
      have h2 : ¬ (33 ≤ bt s i ∧ bt s i ≤ 126) := fun h => by simp [vis, h] at hv
      refine ⟨false, by simp, ?_, by simp⟩
      split
      · rfl
      · rw [if_pos (by omega)]
theorem name_same (s : ByteArray) (hz : s.size ≤ 140737488351232) (k : Nat) (hk : s.size + s.size + 33 < k) : ∃ b, text_Name.f k s = some b ∧ wispref02_Name.f k s = some b ∧ (b = true → (numeral (bytesOf s)).2 = 20) := by
  obtain ⟨k, rfl⟩ : ∃ m, k = m + 1 := ⟨k - 1, by omega⟩
  unfold text_Name.f wispref02_Name.f
  simp only [text_Name.j0, wispref02_Name.j0]
  have h := name_loop s hz s.size k 0 (by omega) (by omega)
  rw [show ((0 : Nat) : Int) = 0 from rfl] at h
  have no : ∃ b : Bool, some false = some b ∧ some false = some b ∧ (b = true → (numeral (bytesOf s)).2 = 20) := ⟨false, rfl, rfl, by simp⟩
  by_cases a : (s.size : Int) < 1
  · simp only [if_pos a, if_true]; exact no
  · by_cases b : (s.size : Int) > 31
    · simp only [if_neg a, if_pos b, if_true]; exact no
    · by_cases c : s.toList = ([92] : List UInt8)
      · simp only [if_neg a, if_neg b, if_pos c, if_true]; exact no
      · cases d : (s.toList == ([40] : List UInt8)) with
        | true => simp only [if_neg a, if_neg b, if_neg c, if_true]; exact no
        | false => simp only [if_neg a, if_neg b, if_neg c, Bool.false_eq_true, if_false]; exact h
theorem fixed_text (k : Nat) : wisplaw02_fixed.f (k + 60) = some true := by
  have h : wisplaw02_fixed.f 60 = some true := by decide +kernel
  exact at_rounds (g := wisplaw02_fixed.f) (fun k => wisplaw02_fixed.mono k) (by omega) h
/-! ### numerals that are written out -/
theorem told_true (s : ByteArray) (hz : s.size ≤ 100000) (x e : Int) (k : Nat) (hk : s.size + 23 < k) (h : numeral (bytesOf s) = (x, e)) : wisplaw02_told.f k s x e = some true := by
  unfold wisplaw02_told.f
  rw [Numeral_eq s (by omega) k hk, h]
  simp
def ex (base : Int) : Int → List Int → Int
  | n, [] => n
  | n, c :: r => ex base (n * base + dv c) r
theorem ex_append (base : Int) : ∀ (l m : List Int) (n : Int), ex base n (l ++ m) = ex base (ex base n l) m
  | [], m, n => rfl
  | c :: r, m, n => ex_append base r m _
theorem acc_ex {base : Int} (hb : 2 ≤ base) : ∀ (l : List Int) (n : Int), 0 ≤ n → (∀ c ∈ l, dv c < base) → acc 65536 base (if 65536 < n then 65536 else n) l = some (if 65536 < ex base n l then 65536 else ex base n l)
  | [], n, h0, hl => rfl
  | c :: r, n, h0, hl => by
    have hd := dv_lt (c := c)
    have n1 : 0 ≤ n * base := Int.mul_nonneg h0 (by omega)
    rw [show ex base n (c :: r) = ex base (n * base + dv c) r from rfl]
    simp only [acc]
    rw [if_pos (hl c (by simp)), ← acc_ex hb r (n * base + dv c) (by omega) (fun z hz => hl z (by simp [hz]))]
    congr 1
    by_cases g : 65536 < n
    · have m2 : 65536 * base ≤ n * base := Int.mul_le_mul_of_nonneg_right (by omega) (by omega)
      rw [if_pos g]
      have : 65536 * 2 ≤ 65536 * base := by omega
      generalize 65536 * base = z' at *
      rw [if_pos (by omega), if_pos (by omega)]
    · rw [if_neg g]
theorem num_ex {base : Int} (hb : 2 ≤ base) (sign : Int) (l : List Int) (h : l ≠ []) (hl : ∀ c ∈ l, dv c < base) : num sign base l = fin sign (if 65536 < ex base 0 l then 65536 else ex base 0 l) := by
  unfold num
  rw [if_neg h]
  have := acc_ex hb l 0 (by omega) hl
  rw [if_neg (show ¬ (65536 : Int) < 0 by omega)] at this
  rw [this]
def dg (d : Int) : Int := if d < 10 then 48 + d else 87 + d
theorem dv_dg {d : Int} (h0 : 0 ≤ d) (h1 : d < 16) : dv (dg d) = d := by
  unfold dv dg
  (repeat' split) <;> omega
theorem dg_range {d : Int} (h0 : 0 ≤ d) (h1 : d < 16) : 48 ≤ dg d ∧ dg d ≤ 102 := by unfold dg; split <;> omega
/-- A number's digits, the first one first. -/
def digL (base : Nat) (x : Nat) : List Int := if h : x < base ∨ base < 2 then [dg x] else digL base (x / base) ++ [dg ((x % base : Nat) : Int)]
termination_by x
decreasing_by exact Nat.div_lt_self (by omega) (by omega)
theorem digL_small {base x : Nat} (h : x < base) : digL base x = [dg x] := by rw [digL, dif_pos (.inl h)]
theorem digL_big {base x : Nat} (hb : 2 ≤ base) (h : base ≤ x) : digL base x = digL base (x / base) ++ [dg ((x % base : Nat) : Int)] := by rw [digL, dif_neg (by omega)]
theorem digL_ne (base x : Nat) : digL base x ≠ [] := by rw [digL]; split <;> simp
theorem digL_digits {base : Nat} (hb : 2 ≤ base) (hb2 : base ≤ 16) (x : Nat) : ∀ c ∈ digL base x, dv c < base ∧ 48 ≤ c ∧ c ≤ 102 := by
  induction x using Nat.strongRecOn with
  | _ x ih =>
    intro c hc
    by_cases h : x < base
    · rw [digL_small h] at hc
      obtain rfl := List.mem_singleton.1 hc
      have := dg_range (d := (x : Int)) (by omega) (by omega)
      rw [dv_dg (by omega) (by omega)]; omega
    · rw [digL_big hb (by omega)] at hc
      rcases List.mem_append.1 hc with hc | hc
      · exact ih _ (Nat.div_lt_self (by omega) (by omega)) c hc
      · obtain rfl := List.mem_singleton.1 hc
        have := Nat.mod_lt x (show base > 0 by omega)
        have := dg_range (d := ((x % base : Nat) : Int)) (by omega) (by omega)
        rw [dv_dg (by omega) (by omega)]; omega
theorem digL_ex {base : Nat} (hb : 2 ≤ base) (hb2 : base ≤ 16) (x : Nat) : ex base 0 (digL base x) = x := by
  induction x using Nat.strongRecOn with
  | _ x ih =>
    by_cases h : x < base
    · rw [digL_small h]; simp only [ex]; rw [dv_dg (by omega) (by omega)]; omega
    · have := Nat.mod_lt x (show base > 0 by omega)
      rw [digL_big hb (by omega), ex_append, ih _ (Nat.div_lt_self (by omega) (by omega))]
      simp only [ex]
      rw [dv_dg (by omega) (by omega)]
      have e := Nat.div_add_mod x base
      have e2 : (((x / base * base + x % base : Nat)) : Int) = (x : Int) := by rw [Nat.mul_comm]; rw [e]
      push_cast at e2 ⊢
      exact e2
theorem digL_len {base : Nat} (hb : 2 ≤ base) (x : Nat) : ∀ n, x < 2 ^ n → (digL base x).length ≤ n + 1 := by
  induction x using Nat.strongRecOn with
  | _ x ih =>
    intro n hn
    by_cases h : x < base
    · rw [digL_small h]; simp
    · rw [digL_big hb (by omega), List.length_append]
      match n, hn with
      | 0, hn => simp at hn; omega
      | n + 1, hn =>
        have hd : x / base ≤ x / 2 := Nat.div_le_div_left hb (by omega)
        have := ih (x / base) (Nat.div_lt_self (by omega) (by omega)) n (by rw [Nat.pow_succ] at hn; omega)
        simp; omega
theorem ex_zeros (base : Int) (n : Nat) (l : List Int) : ex base 0 (List.replicate n 48 ++ l) = ex base 0 l := by
  induction n with
  | zero => rfl
  | succ n ih => rw [List.replicate_succ, List.cons_append]; simp only [ex]; rw [show (0 : Int) * base + dv 48 = 0 by simp [dv]]; exact ih
theorem rd_zero_cons (c : Int) (l : List Int) : rd (c :: l) 0 = c := rfl
theorem rd0_of {l m : List Int} (h : l ≠ []) : rd (l ++ m) 0 = rd l 0 := by cases l with
  | nil => exact absurd rfl h
  | cons c r => rfl
theorem rd0_mem {l : List Int} (h : l ≠ []) : rd l 0 ∈ l := by cases l with
  | nil => exact absurd rfl h
  | cons c r => simp [rd]
/-- A numeral of digits alone. -/
theorem numeral_dec (l : List Int) (h : l ≠ []) (hl : ∀ c ∈ l, 48 ≤ c) : numeral l = num 1 10 l := by
  have h0 := hl _ (rd0_mem h)
  unfold numeral
  rw [if_neg (fun z => by have := z.2.1; omega), if_neg h, if_neg (by omega), if_neg (by omega), if_neg (by omega)]
theorem numeral_hex (l : List Int) : numeral (36 :: l) = num 1 16 l := by
  unfold numeral; rw [if_neg (fun z => by have := z.2.1; rw [rd_zero_cons] at this; omega), if_neg (by simp), rd_zero_cons, if_neg (by omega), if_pos rfl]; rfl
theorem numeral_bin (l : List Int) : numeral (37 :: l) = num 1 2 l := by
  unfold numeral; rw [if_neg (fun z => by have := z.2.1; rw [rd_zero_cons] at this; omega), if_neg (by simp), rd_zero_cons, if_neg (by omega), if_neg (by omega), if_pos rfl]; rfl
theorem numeral_neg (l : List Int) : numeral (45 :: l) = num (-1) 10 l := by
  unfold numeral; rw [if_neg (fun z => by have := z.2.1; rw [rd_zero_cons] at this; omega), if_neg (by simp), rd_zero_cons, if_pos rfl]; rfl
theorem num_digL (base : Nat) (hb : 2 ≤ base) (hb2 : base ≤ 16) (sign : Int) (n x : Nat) : num sign base (List.replicate n 48 ++ digL base x) = fin sign (if 65536 < (x : Int) then 65536 else x) := by
  rw [num_ex (by omega) sign _ (by intro e; exact digL_ne base x (List.append_eq_nil_iff.1 e).2), ex_zeros, digL_ex hb hb2]
  intro c hc
  rcases List.mem_append.1 hc with hc | hc
  · rw [List.eq_of_mem_replicate hc]; simp [dv]; omega
  · exact (digL_digits hb hb2 x c hc).1
theorem fin_pos {x : Int} (h0 : 0 ≤ x) (h1 : x ≤ 65535) : fin 1 x = (x, 0) := by
  unfold fin; rw [if_neg (by omega), if_neg (by omega)]; congr 1; omega
theorem extract_DG (i : Int) (h0 : 0 ≤ i) (h1 : i < 16) : bytesOf (DG.extract i.toNat (i + 1).toNat) = [dg i] := by
  obtain ⟨n, rfl⟩ := Int.eq_ofNat_of_zero_le h0
  have : n < 16 := by omega
  revert this; clear h0 h1; revert n; decide +kernel
theorem bt_dg (i : Int) (h0 : 0 ≤ i) (h1 : i < 16) : bt DG i = dg i := bt_DG i h0 h1
/-! ### a list turned round in its place -/
theorem rd_app_r (P : List Int) (c : Int) (R : List Int) : rd (P ++ c :: R) (P.length : Int) = c := by simp [rd, List.getD_eq_getElem?_getD]
theorem set_app_r (P : List Int) (c d : Int) (R : List Int) : (P ++ c :: R).set (P.length : Int).toNat d = P ++ d :: R := by simp
theorem rev_loop (n : Nat) : ∀ (M P Q : List Int) (k : Nat), M.length ≤ n → n < k → P.length = Q.length → (P ++ M ++ Q).length ≤ 1000000 →
    slices_Reverse_byte_byte.l0 k (P ++ M ++ Q) P.length ((P.length : Int) + M.length - 1) = some (P ++ M.reverse ++ Q) := by
  induction n using Nat.strongRecOn with
  | _ n ih =>
    intro M P Q k hM hk hPQ hlen
    obtain ⟨k, rfl⟩ : ∃ m, k = m + 1 := ⟨k - 1, by omega⟩
    simp only [slices_Reverse_byte_byte.l0]
    match M, hM with
    | [], _ => rw [if_neg (by simp; omega)]; simp
    | [a], _ => rw [if_neg (by simp)]; simp
    | a :: b :: r, hM =>
      obtain ⟨M', z, hz⟩ : ∃ M' z, b :: r = M' ++ [z] := ⟨(b :: r).dropLast, (b :: r).getLast (by simp), (List.dropLast_concat_getLast (by simp)).symm⟩
      rw [hz] at hM hlen ⊢
      simp only [List.length_cons, List.length_append, List.length_nil] at hM hlen ⊢
      have e1 : ((P.length : Int) + ((M'.length + (0 + 1) + 1 : Nat) : Int) - 1) = (((P ++ a :: M').length : Nat) : Int) := by simp; omega
      rw [e1]
      have r1 : rd (P ++ a :: (M' ++ [z]) ++ Q) (((P ++ a :: M').length : Nat) : Int) = z := by
        rw [show P ++ a :: (M' ++ [z]) ++ Q = (P ++ a :: M') ++ z :: Q by simp]; exact rd_app_r _ _ _
      have r2 : rd (P ++ a :: (M' ++ [z]) ++ Q) (P.length : Int) = a := by
        rw [show P ++ a :: (M' ++ [z]) ++ Q = P ++ a :: (M' ++ z :: Q) by simp]; exact rd_app_r _ _ _
      rw [if_pos (by simp; omega), if_pos (by omega), if_pos (by simp; omega), if_pos (by omega), if_pos (by simp; omega), r1, r2]
      rw [show P ++ a :: (M' ++ [z]) ++ Q = P ++ a :: (M' ++ z :: Q) by simp, set_app_r, show P ++ z :: (M' ++ z :: Q) = (P ++ z :: M') ++ z :: Q by simp]
      rw [show ((P ++ a :: M').length : Int) = ((P ++ z :: M').length : Int) by simp, set_app_r]
      rw [wrap64_u (x := (P.length : Int) + 1) (by omega) (by omega), wrap64_u (x := ((P ++ z :: M').length : Int) - 1) (by omega) (by simp; omega)]
      have := ih M'.length (by omega) M' (P ++ [z]) (a :: Q) k (Nat.le_refl _) (by omega) (by simp; omega) (by simp; omega)
      rw [show (P ++ z :: M') ++ a :: Q = P ++ [z] ++ M' ++ a :: Q by simp]
      rw [show ((P.length : Int) + 1) = ((P ++ [z]).length : Int) by simp, show ((P ++ z :: M').length : Int) - 1 = ((P ++ [z]).length : Int) + M'.length - 1 by simp; omega, this]
      simp
theorem reverse_eq (L : List Int) (hL : L.length ≤ 1000000) (k : Nat) (hk : L.length < k) : slices_Reverse_byte_byte.f k L = some L.reverse := by
  unfold slices_Reverse_byte_byte.f
  rw [wrap64_u (by omega) (by omega)]
  have := rev_loop L.length L [] [] k (Nat.le_refl _) hk rfl (by simpa using hL)
  simpa using this
/-! ### decimal and hexadecimal numerals -/
theorem Decimal_loop (x : Nat) : ∀ (k : Nat) (A : List Int), x ≤ 65535 → x + A.length < 100000 → 2 * x + 100 + A.length < k → text_Decimal.l0 k x A = some (strOfNums (if x = 0 then A.reverse else digL 10 x ++ A.reverse)) := by
  induction x using Nat.strongRecOn with
  | _ x ih =>
    intro k A hx hA hk
    obtain ⟨k, rfl⟩ : ∃ m, k = m + 1 := ⟨k - 1, by omega⟩
    simp only [text_Decimal.l0]
    by_cases c : x = 0
    · subst c
      rw [if_neg (by simp), reverse_eq A (by omega) k (by omega), if_pos rfl]; rfl
    · have t1 : Int.tmod (x : Int) 10 = ((x % 10 : Nat) : Int) := by rw [Int.tmod_eq_emod_of_nonneg (by omega)]; omega
      have t2 : IntKind.u16.wrap (Int.tdiv (x : Int) 10) = ((x / 10 : Nat) : Int) := by rw [u16_wrap, Int.tdiv_eq_ediv_of_nonneg (by omega)]; omega
      have b1 := bt_dg ((x % 10 : Nat) : Int) (by omega) (by omega)
      unfold DG at b1
      rw [t1, t2, if_pos (by omega), if_pos (by omega), if_pos (by omega), if_pos (by omega), b1, ih (x / 10) (by omega) k _ (by omega) (by simp; omega) (by simp; omega), if_neg c]
      by_cases d : x < 10
      · rw [if_pos (by omega), digL_small d, Nat.mod_eq_of_lt d]; simp
      · rw [if_neg (by omega), digL_big (base := 10) (x := x) (by omega) (by omega)]; simp
theorem Decimal_eq (x : Nat) (hx : x ≤ 65535) (k : Nat) (hk : 200000 < k) : text_Decimal.f k x = some (strOfNums (digL 10 x)) := by
  have t1 : Int.tmod (x : Int) 10 = ((x % 10 : Nat) : Int) := by rw [Int.tmod_eq_emod_of_nonneg (by omega)]; omega
  have t2 : IntKind.u16.wrap (Int.tdiv (x : Int) 10) = ((x / 10 : Nat) : Int) := by rw [u16_wrap, Int.tdiv_eq_ediv_of_nonneg (by omega)]; omega
  have b1 := bt_dg ((x % 10 : Nat) : Int) (by omega) (by omega)
  unfold DG at b1
  unfold text_Decimal.f
  rw [t1, t2, if_pos (by omega), if_pos (by omega), b1, Decimal_loop (x / 10) k _ (by omega) (by simp; omega) (by simp; omega)]
  by_cases d : x < 10
  · rw [if_pos (by omega), digL_small d, Nat.mod_eq_of_lt d]; rfl
  · rw [if_neg (by omega), digL_big (base := 10) (x := x) (by omega) (by omega)]; rfl
theorem digL_bytes {base : Nat} (hb : 2 ≤ base) (hb2 : base ≤ 16) (x : Nat) : bytesOf (strOfNums (digL base x)) = digL base x := bytes_str _ fun c hc => by have := digL_digits hb hb2 x c hc; omega
theorem RDecimal_loop (x : Nat) : ∀ (k : Nat) (s : ByteArray) (A : List Int), x ≤ 65535 → bytesOf s = A → x + A.length < 100000 → x < k → ∃ t, wispref02_Decimal.l0 k x s = some t ∧ bytesOf t = if x < 10 then A else digL 10 (x / 10) ++ A := by
  induction x using Nat.strongRecOn with
  | _ x ih =>
    intro k s A hx hs hA hk
    obtain ⟨k, rfl⟩ : ∃ m, k = m + 1 := ⟨k - 1, by omega⟩
    simp only [wispref02_Decimal.l0]
    by_cases c : x < 10
    · rw [if_neg (by omega)]
      exact ⟨s, rfl, by rw [if_pos c, hs]⟩
    · have t0 : wrap64 (Int.tdiv (x : Int) 10) = ((x / 10 : Nat) : Int) := by rw [Int.tdiv_eq_ediv_of_nonneg (by omega), wrap64_u (by omega) (by omega)]; omega
      have t1 : Int.tmod ((x / 10 : Nat) : Int) 10 = ((x / 10 % 10 : Nat) : Int) := by rw [Int.tmod_eq_emod_of_nonneg (by omega)]; omega
      have t2 : wrap64 (((x / 10 % 10 : Nat) : Int) + 1) = ((x / 10 % 10 : Nat) : Int) + 1 := wrap64_u (by omega) (by omega)
      have e := extract_DG ((x / 10 % 10 : Nat) : Int) (by omega) (by omega)
      unfold DG at e
      rw [t0, t1, t2, if_pos (by omega), if_pos (by omega), if_pos (by omega), if_pos (by omega)]
      generalize (ByteArray.extract _ ((x / 10 % 10 : Nat) : Int).toNat (((x / 10 % 10 : Nat) : Int) + 1).toNat) = q at *
      have hq : q.size = 1 := by rw [← bytesOf_length, e]; rfl
      have hsz : s.size = A.length := by rw [← bytesOf_length, hs]
      rw [if_pos (by omega)]
      obtain ⟨t, ht, hb⟩ := ih (x / 10) (by omega) k (q ++ s) (dg ((x / 10 % 10 : Nat) : Int) :: A) (by omega) (by rw [bytes_append, e, hs]; rfl) (by simp; omega) (by omega)
      refine ⟨t, ht, ?_⟩
      rw [hb, if_neg c]
      by_cases d : x / 10 < 10
      · rw [if_pos d, digL_small d, Nat.mod_eq_of_lt d]; rfl
      · rw [if_neg d, digL_big (by omega) (show 10 ≤ x / 10 by omega)]; simp
theorem RDecimal_eq (x : Nat) (hx : x ≤ 65535) (k : Nat) (hk : 70000 < k) : ∃ t, wispref02_Decimal.f k x = some t ∧ bytesOf t = digL 10 x := by
  have t0 : wrap64 (x : Int) = (x : Int) := wrap64_u (by omega) (by omega)
  have t1 : Int.tmod (x : Int) 10 = ((x % 10 : Nat) : Int) := by rw [Int.tmod_eq_emod_of_nonneg (by omega)]; omega
  have t2 : wrap64 (((x % 10 : Nat) : Int) + 1) = ((x % 10 : Nat) : Int) + 1 := wrap64_u (by omega) (by omega)
  have e := extract_DG ((x % 10 : Nat) : Int) (by omega) (by omega)
  unfold DG at e
  unfold wispref02_Decimal.f
  rw [t0, t1, t2, if_pos (by omega), if_pos (by omega), if_pos (by omega)]
  obtain ⟨t, ht, hb⟩ := RDecimal_loop x k _ _ hx e (by simp; omega) (by omega)
  refine ⟨t, ht, ?_⟩
  rw [hb]
  by_cases d : x < 10
  · rw [if_pos d, digL_small d, Nat.mod_eq_of_lt d]
  · rw [if_neg d, digL_big (base := 10) (x := x) (by omega) (by omega)]
def hexL (x : Nat) : List Int := [dg ((x / 4096 : Nat) : Int), dg ((x / 256 % 16 : Nat) : Int), dg ((x / 16 % 16 : Nat) : Int), dg ((x % 16 : Nat) : Int)]
theorem bits15 (n : Nat) (hn : n < 65536) : Go.bits .and .u16 (n : Int) 15 = ((n % 16 : Nat) : Int) := by
  unfold Go.bits
  have e : (BitVec.ofInt 16 (n : Int) &&& BitVec.ofInt 16 15).toNat = n % 16 := by
    rw [BitVec.toNat_and, BitVec.toNat_ofInt, BitVec.toNat_ofInt]
    rw [show ((15 : Int) % ((2 ^ 16 : Nat) : Int)).toNat = 2 ^ 4 - 1 from rfl, Nat.and_two_pow_sub_one_eq_mod]
    omega
  show IntKind.u16.wrap (((BitVec.ofInt 16 (n : Int) &&& BitVec.ofInt 16 15).toNat : Nat) : Int) = _
  rw [e, u16_wrap]; omega
theorem Hex_eq (x : Nat) (hx : x ≤ 65535) : text_Hex.f x = some (strOfNums (36 :: hexL x)) := by
  have a0 : (x : Int) / 4096 = ((x / 4096 : Nat) : Int) := by omega
  have a1 : Go.bits .and .u16 ((x : Int) / 256) 15 = ((x / 256 % 16 : Nat) : Int) := by rw [show (x : Int) / 256 = ((x / 256 : Nat) : Int) by omega]; exact bits15 _ (by omega)
  have a2 : Go.bits .and .u16 ((x : Int) / 16) 15 = ((x / 16 % 16 : Nat) : Int) := by rw [show (x : Int) / 16 = ((x / 16 : Nat) : Int) by omega]; exact bits15 _ (by omega)
  have a3 : Go.bits .and .u16 (x : Int) 15 = ((x % 16 : Nat) : Int) := bits15 _ (by omega)
  have b0 := bt_dg ((x / 4096 : Nat) : Int) (by omega) (by omega)
  have b1 := bt_dg ((x / 256 % 16 : Nat) : Int) (by omega) (by omega)
  have b2 := bt_dg ((x / 16 % 16 : Nat) : Int) (by omega) (by omega)
  have b3 := bt_dg ((x % 16 : Nat) : Int) (by omega) (by omega)
  unfold DG at b0 b1 b2 b3
  unfold text_Hex.f hexL
  rw [a0, a1, a2, a3, b0, b1, b2, b3]
  rw [if_pos (by omega), if_pos (by omega), if_pos (by omega), if_pos (by omega), if_pos (by omega), if_pos (by omega), if_pos (by omega), if_pos (by omega)]
theorem hexL_digits (x : Nat) (hx : x ≤ 65535) : ∀ c ∈ hexL x, dv c < 16 ∧ 48 ≤ c ∧ c ≤ 102 := by
  intro c hc
  have g : ∀ d : Nat, d < 16 → dv (dg d) < 16 ∧ 48 ≤ dg d ∧ dg d ≤ 102 := fun d hd => by
    have := dg_range (d := (d : Int)) (by omega) (by omega)
    rw [dv_dg (by omega) (by omega)]; omega
  unfold hexL at hc
  simp only [List.mem_cons, List.not_mem_nil, or_false] at hc
  rcases hc with rfl | rfl | rfl | rfl
  · exact g (x / 4096) (by omega)
  · exact g (x / 256 % 16) (by omega)
  · exact g (x / 16 % 16) (by omega)
  · exact g (x % 16) (by omega)
theorem hexL_bytes (x : Nat) (hx : x ≤ 65535) : bytesOf (strOfNums (36 :: hexL x)) = 36 :: hexL x := bytes_str _ fun c hc => by
  rcases List.mem_cons.1 hc with rfl | hc
  · omega
  · have := hexL_digits x hx c hc; omega
theorem hexL_ex (x : Nat) (hx : x ≤ 65535) : ex 16 0 (hexL x) = x := by
  unfold hexL
  simp only [ex]
  rw [dv_dg (by omega) (by omega), dv_dg (by omega) (by omega), dv_dg (by omega) (by omega), dv_dg (by omega) (by omega)]
  omega
theorem RHex_step (k : Nat) (s : ByteArray) (A : List Int) (x i : Nat) (hs : bytesOf s = A) (hx : x ≤ 65535) (hi : i < 4) (hA : A.length ≤ 10) :
    ∃ t, bytesOf t = dg ((x % 16 : Nat) : Int) :: A ∧ wispref02_Hex.l0 (k + 1) s x i = wispref02_Hex.l0 k t ((x / 16 : Nat) : Int) ((i + 1 : Nat) : Int) := by
  have t1 : Int.tmod (x : Int) 16 = ((x % 16 : Nat) : Int) := by rw [Int.tmod_eq_emod_of_nonneg (by omega)]; omega
  have t2 : wrap64 (((x % 16 : Nat) : Int) + 1) = ((x % 16 : Nat) : Int) + 1 := wrap64_u (by omega) (by omega)
  have t0 : wrap64 (Int.tdiv (x : Int) 16) = ((x / 16 : Nat) : Int) := by rw [Int.tdiv_eq_ediv_of_nonneg (by omega), wrap64_u (by omega) (by omega)]; omega
  have t3 : wrap64 ((i : Int) + 1) = ((i + 1 : Nat) : Int) := by rw [wrap64_u (by omega) (by omega)]; omega
  have e := extract_DG ((x % 16 : Nat) : Int) (by omega) (by omega)
  unfold DG at e
  simp only [wispref02_Hex.l0]
  rw [t1, t2, t0, t3, if_pos (by omega), if_pos (by omega), if_pos (by omega), if_pos (by omega)]
  generalize (ByteArray.extract _ ((x % 16 : Nat) : Int).toNat (((x % 16 : Nat) : Int) + 1).toNat) = q at *
  have hq : q.size = 1 := by rw [← bytesOf_length, e]; rfl
  have hsz : s.size = A.length := by rw [← bytesOf_length, hs]
  rw [if_pos (by omega)]
  exact ⟨q ++ s, by rw [bytes_append, e, hs]; rfl, rfl⟩
theorem RHex_eq (x : Nat) (hx : x ≤ 65535) (k : Nat) : ∃ t, wispref02_Hex.f (k + 5) x = some t ∧ bytesOf t = 36 :: hexL x := by
  unfold wispref02_Hex.f
  rw [wrap64_u (by omega) (by omega)]
  obtain ⟨t1, h1, e1⟩ := RHex_step (k + 4) ⟨#[]⟩ [] x 0 rfl hx (by omega) (by simp)
  obtain ⟨t2, h2, e2⟩ := RHex_step (k + 3) t1 _ (x / 16) 1 h1 (by omega) (by omega) (by simp)
  obtain ⟨t3, h3, e3⟩ := RHex_step (k + 2) t2 _ (x / 16 / 16) 2 h2 (by omega) (by omega) (by simp)
  obtain ⟨t4, h4, e4⟩ := RHex_step (k + 1) t3 _ (x / 16 / 16 / 16) 3 h3 (by omega) (by omega) (by simp)
  rw [show ((0 : Nat) : Int) = 0 from rfl] at e1
  rw [e1, e2, e3, e4]
  simp only [wispref02_Hex.l0]
  have hs : t4.size = 4 := by rw [← bytesOf_length, h4]; rfl
  rw [if_neg (by omega), if_pos (by omega)]
  refine ⟨_, rfl, ?_⟩
  rw [bytes_append, h4]
  unfold hexL
  rw [show x / 16 / 16 / 16 % 16 = x / 4096 by omega, show x / 16 / 16 % 16 = x / 256 % 16 by omega]
  rfl
/-! ### the statement TextCells -/
theorem num_dec (sign : Int) (n x : Nat) : num sign 10 (List.replicate n 48 ++ digL 10 x) = fin sign (if 65536 < (x : Int) then 65536 else x) := num_digL 10 (by omega) (by omega) sign n x
theorem num_dec0 (sign : Int) (x : Nat) : num sign 10 (digL 10 x) = fin sign (if 65536 < (x : Int) then 65536 else x) := num_digL 10 (by omega) (by omega) sign 0 x
theorem num_hex0 (sign : Int) (x : Nat) : num sign 16 (digL 16 x) = fin sign (if 65536 < (x : Int) then 65536 else x) := num_digL 16 (by omega) (by omega) sign 0 x
theorem num_bin0 (sign : Int) (x : Nat) : num sign 2 (digL 2 x) = fin sign (if 65536 < (x : Int) then 65536 else x) := num_digL 2 (by omega) (by omega) sign 0 x
end Go.Proofs.Ytjphhnhloeanlaa.Pure
