/- Plain facts on texts: what a numeral comes to for the program; places by counting. (Turned from the Text seat's.) -/
import Derived.Test.YtembdahclmffjaaPx6
import Derived.Test.YtembdahclmffjaaPlaces
import Derived.OpenShut
namespace Go.Proofs.Ytembdahclmffjaa.Pure
set_option linter.unusedSimpArgs false
set_option linter.unusedVariables false
open Go.RowKit Go.Proofs.Ytembdahclmffjaa.P Go.Proofs.YtembdahclmffjaaW.PrintWords Go.Proofs.YtembdahclmffjaaW.PrintLast Go.Proofs.YtembdahclmffjaaW.PrintMore

theorem wrap64_u {x : Int} (h0 : -4611686018427387904 ≤ x) (h1 : x ≤ 4611686018427387904) : wrap64 x = x := by unfold wrap64; omega
theorem u16_wrap (n : Int) : IntKind.u16.wrap n = n % 65536 := by simp [IntKind.wrap, IntKind.bits, IntKind.signed]
theorem toList_nil (s : ByteArray) : s.toList = ([] : List UInt8) ↔ s.size = 0 := by
  rw [ByteArray.toList_eq]
  constructor
  · intro h; have := data_length s; rw [h] at this; simpa using this.symm
  · intro h; have := data_length s; rw [h] at this; exact List.eq_nil_of_length_eq_zero this
/-- A text by its bytes. -/
theorem toList_bytes (s : ByteArray) (l : List UInt8) : s.toList = l ↔ bytesOf s = l.map fun b => (b.toNat : Int) := by
  rw [ByteArray.toList_eq]
  unfold bytesOf
  constructor
  · intro h; rw [h]
  · intro h
    exact (List.map_inj_right (fun a b hab => UInt8.toNat_inj.1 (by omega))).1 h
theorem toList_same (s t : ByteArray) : s.toList = t.toList ↔ bytesOf s = bytesOf t := by
  rw [toList_bytes, ByteArray.toList_eq]; rfl
theorem size_bytes (s : ByteArray) : (s.size : Int) = ((bytesOf s).length : Int) := by rw [bytesOf_length]
theorem bytes_extract (s : ByteArray) (i : Nat) : bytesOf (s.extract i s.size) = (bytesOf s).drop i := by
  unfold bytesOf
  rw [← List.map_drop]
  congr 1
  rw [ByteArray.data_extract, Array.toList_extract, List.extract_eq_take_drop, List.take_of_length_le]
  rw [List.length_drop, data_length]; omega
theorem bytes_append (s t : ByteArray) : bytesOf (s ++ t) = bytesOf s ++ bytesOf t := by
  unfold bytesOf; rw [ByteArray.data_append, Array.toList_append, List.map_append]
theorem bytes_range (s : ByteArray) : ∀ c ∈ bytesOf s, 0 ≤ c ∧ c ≤ 255 := by
  intro c hc
  unfold bytesOf at hc
  obtain ⟨b, _, rfl⟩ := List.mem_map.1 hc
  have := b.toNat_lt
  omega
theorem bytes_str (l : List Int) (h : ∀ c ∈ l, 0 ≤ c ∧ c ≤ 255) : bytesOf (strOfNums l) = l := by
  unfold bytesOf strOfNums
  simp only [List.toList_toArray, List.map_map]
  conv => rhs; rw [← List.map_id l]
  refine List.map_congr_left fun c hc => ?_
  have := h c hc
  simp only [Function.comp, UInt8.toNat_ofNat', id]
  omega

/-! ### a digit's number -/
def dv (c : Int) : Int := if 48 ≤ c ∧ c ≤ 57 then c - 48 else if 97 ≤ c ∧ c ≤ 102 then c - 87 else 99
theorem dv_lt {c : Int} : 0 ≤ dv c := by unfold dv; split <;> (try split) <;> omega
def DG : ByteArray := ⟨#[48, 49, 50, 51, 52, 53, 54, 55, 56, 57, 97, 98, 99, 100, 101, 102]⟩
theorem bt_DG (i : Int) (h0 : 0 ≤ i) (h1 : i < 16) : bt DG i = if i < 10 then 48 + i else 87 + i := by
  obtain ⟨n, rfl⟩ := Int.eq_ofNat_of_zero_le h0
  have : n < 16 := by omega
  revert this
  clear h0 h1
  revert n
  decide +kernel
theorem dg_eq (i c : Int) (h0 : 0 ≤ i) (h1 : i < 16) : bt DG i = c ↔ dv c = i := by
  rw [bt_DG i h0 h1]; unfold dv; repeat' split
  all_goals omega
theorem value_loop (c base : Int) (hb : base ≤ 16) (d : Nat) : ∀ k (i : Int), 0 ≤ i → i + d = base → i ≤ dv c → d < k → text_value.l0 k c base i = some (if dv c < base then (dv c, true) else (0, false)) := by
  induction d with
  | zero =>
    intro k i h0 hi hd hk
    obtain ⟨k, rfl⟩ : ∃ m, k = m + 1 := ⟨k - 1, by omega⟩
    simp only [text_value.l0]
    rw [if_neg (by omega), if_neg (by omega)]
  | succ d ih =>
    intro k i h0 hi hd hk
    obtain ⟨k, rfl⟩ : ∃ m, k = m + 1 := ⟨k - 1, by omega⟩
    simp only [text_value.l0]
    rw [if_pos (by omega), if_pos h0, if_pos (by omega)]
    have e := dg_eq i c h0 (by omega)
    unfold DG at e
    by_cases c1 : dv c = i
    · rw [if_pos (e.2 c1), if_pos (by omega), c1]
    · rw [if_neg (mt e.1 c1), wrap64_u (by omega) (by omega)]
      exact ih k (i + 1) (by omega) (by omega) (by omega) (by omega)
theorem text_value_eq (c base : Int) (h0 : 0 ≤ base) (hb : base ≤ 16) (k : Nat) (hk : 16 < k) : text_value.f k c base = some (if dv c < base then (dv c, true) else (0, false)) :=
  value_loop c base hb base.toNat k 0 (by omega) (by omega) dv_lt (by omega)
/-! ### a numeral's digits: the number, at most 65536 (the program) or a million (the document) -/
def acc (cap base : Int) : Int → List Int → Option Int
  | n, [] => some n
  | n, c :: r => if dv c < base then acc cap base (if cap < n * base + dv c then cap else n * base + dv c) r else none
theorem acc_none (cap cap' base : Int) : ∀ (l : List Int) (n m : Int), acc cap base n l = none ↔ acc cap' base m l = none
  | [], n, m => by simp [acc]
  | c :: r, n, m => by
    simp only [acc]
    by_cases h : dv c < base
    · rw [if_pos h, if_pos h]; exact acc_none cap cap' base r _ _
    · simp [h]
theorem acc_cap {base : Int} (hb : 2 ≤ base) (hb2 : base ≤ 16) : ∀ (l : List Int) (n m x y : Int), 0 ≤ n → n ≤ 65536 → 0 ≤ m → m ≤ 1000000 → n = (if 65536 < m then 65536 else m) → acc 65536 base n l = some x → acc 1000000 base m l = some y → x = (if 65536 < y then 65536 else y) ∧ 0 ≤ y ∧ y ≤ 1000000
  | [], n, m, x, y, h0, h1, h2, h3, h4, hx, hy => by
    simp only [acc, Option.some.injEq] at hx hy
    subst hx; subst hy; exact ⟨h4, h2, h3⟩
  | c :: r, n, m, x, y, h0, h1, h2, h3, h4, hx, hy => by
    simp only [acc] at hx hy
    by_cases h : dv c < base
    · rw [if_pos h] at hx hy
      have hd := dv_lt (c := c)
      have m1 : 0 ≤ m * base := Int.mul_nonneg h2 (by omega)
      have n1 : 0 ≤ n * base := Int.mul_nonneg h0 (by omega)
      refine acc_cap hb hb2 r _ _ x y ?_ ?_ ?_ ?_ ?_ hx hy
      · split <;> omega
      · split <;> omega
      · split <;> omega
      · split <;> omega
      · by_cases g : 65536 < m
        · rw [if_pos g] at h4
          subst h4
          have m2 : 65536 * base ≤ m * base := Int.mul_le_mul_of_nonneg_right (by omega) (by omega)
          generalize m * base = z at *
          have : 65536 * 2 ≤ 65536 * base := by omega
          generalize 65536 * base = z' at *
          repeat' split
          all_goals omega
        · rw [if_neg g] at h4
          subst h4
          generalize n * base = z at *
          repeat' split
          all_goals omega
    · rw [if_neg h] at hx; cases hx
theorem acc_bd {base : Int} (hb : 2 ≤ base) (hb2 : base ≤ 16) : ∀ (l : List Int) (n x : Int), 0 ≤ n → n ≤ 65536 → acc 65536 base n l = some x → 0 ≤ x ∧ x ≤ 65536
  | [], n, x, h0, h1, hx => by simp only [acc, Option.some.injEq] at hx; omega
  | c :: r, n, x, h0, h1, hx => by
    simp only [acc] at hx
    by_cases h : dv c < base
    · rw [if_pos h] at hx
      have hd := dv_lt (c := c)
      have n1 : 0 ≤ n * base := Int.mul_nonneg h0 (by omega)
      refine acc_bd hb hb2 r _ x ?_ ?_ hx <;> split <;> omega
    · rw [if_neg h] at hx; cases hx
/-- What a numeral's number comes to: its cell, or too great. -/
def fin (sign m : Int) : Int × Int := if m * sign < -32768 then (0, 21) else if m * sign > 65535 then (0, 21) else (m * sign % 65536, 0)
def num (sign base : Int) (r : List Int) : Int × Int := if r = [] then (0, 20) else match acc 65536 base 0 r with
  | none => (0, 20)
  | some m => fin sign m
def vis (c : Int) : Bool := decide (33 ≤ c) && decide (c ≤ 126)
/-- A word's cell and error. -/
def numeral (L : List Int) : Int × Int :=
  if L.length = 3 ∧ rd L 0 = 39 ∧ rd L 2 = 39 ∧ vis (rd L 1) = true then (rd L 1, 0)
  else if L = [] then (0, 20)
  else if rd L 0 = 45 then num (-1) 10 (L.drop 1)
  else if rd L 0 = 36 then num 1 16 (L.drop 1)
  else if rd L 0 = 37 then num 1 2 (L.drop 1)
  else num 1 10 L
theorem and_i64 (n : Int) (h0 : -32768 ≤ n) (h1 : n ≤ 65535) : IntKind.u16.wrap (Go.bits .and .i64 n 65535) = n % 65536 := by
  rw [u16_wrap]
  unfold Go.bits
  have e : (BitVec.ofInt 64 n &&& BitVec.ofInt 64 65535).toNat = (n % 65536).toNat := by
    rw [BitVec.toNat_and, BitVec.toNat_ofInt, BitVec.toNat_ofInt]
    rw [show ((65535 : Int) % ((2 ^ 64 : Nat) : Int)).toNat = 2 ^ 16 - 1 from rfl, Nat.and_two_pow_sub_one_eq_mod]
    omega
  show (IntKind.i64.wrap ((BitVec.ofInt 64 n &&& BitVec.ofInt 64 65535).toNat : Int)) % 65536 = _
  rw [e]
  simp only [IntKind.wrap, IntKind.bits, IntKind.signed]
  simp
  split <;> omega
theorem rd_drop (L : List Int) (i : Nat) (h : i < L.length) : L.drop i = rd L i :: L.drop (i + 1) := by
  rw [List.drop_eq_getElem_cons h]
  congr 1
  simp [rd, List.getD_eq_getElem?_getD, h]
theorem numeral_loop (sign base : Int) (hs : sign = 1 ∨ sign = -1) (hb : 2 ≤ base) (hb2 : base ≤ 16) (s : ByteArray) (hz : s.size ≤ 140737488351232) (d : Nat) :
    ∀ k (i : Nat) (n : Int), i + d = s.size → 0 ≤ n → n ≤ 65536 → d + 20 < k → text_Numeral.l0 k sign base s n s.size i = some (match acc 65536 base n ((bytesOf s).drop i) with | none => (0, 20) | some m => fin sign m) := by
  induction d with
  | zero =>
    intro k i n hi h0 h1 hk
    obtain ⟨k, rfl⟩ : ∃ m, k = m + 1 := ⟨k - 1, by omega⟩
    rw [List.drop_eq_nil_of_le (by rw [bytesOf_length]; omega)]
    simp only [text_Numeral.l0, acc]
    have hm : -65536 ≤ n * sign ∧ n * sign ≤ 65536 := by rcases hs with rfl | rfl <;> omega
    rw [if_neg (by omega), wrap64_u (by omega) (by omega)]
    unfold fin
    split
    · rfl
    · split
      · rfl
      · rw [and_i64 _ (by omega) (by omega)]
  | succ d ih =>
    intro k i n hi h0 h1 hk
    obtain ⟨k, rfl⟩ : ∃ m, k = m + 1 := ⟨k - 1, by omega⟩
    have hl := bytesOf_length s
    rw [rd_drop _ i (by omega), rd_bytesOf]
    simp only [text_Numeral.l0, acc]
    have hd := dv_lt (c := bt s i)
    have n1 : 0 ≤ n * base := Int.mul_nonneg h0 (by omega)
    have n2 : n * base ≤ 65536 * 16 := Int.mul_le_mul h1 hb2 (by omega) (by omega)
    rw [if_pos (by omega), if_pos (by omega), if_pos (by omega), text_value_eq _ base (by omega) hb2 k (by omega)]
    simp only [Option.bind_some]
    by_cases c : dv (bt s i) < base
    · rw [if_pos c, if_pos c]
      simp only [if_true]
      rw [wrap64_u (x := n * base) (by omega) (by omega), wrap64_u (x := n * base + dv (bt s i)) (by omega) (by omega), wrap64_u (x := (i : Int) + 1) (by omega) (by omega)]
      have := ih k (i + 1) (mn (n * base + dv (bt s i)) 65536) (by omega) (by unfold mn; split <;> omega) (by unfold mn; split <;> omega) (by omega)
      rw [show ((i : Int) + 1) = ((i + 1 : Nat) : Int) by omega, this]
      rfl
    · rw [if_neg c, if_neg c]
      simp
theorem num_eq (sign base : Int) (hs : sign = 1 ∨ sign = -1) (hb : 2 ≤ base) (hb2 : base ≤ 16) (s : ByteArray) (hz : s.size ≤ 140737488351232) (k : Nat) (hk : s.size + 21 < k) :
    (if s.toList = ([] : List UInt8) then some ((0 : Int), (20 : Int)) else text_Numeral.l0 k sign base s 0 s.size 0) = some (num sign base (bytesOf s)) := by
  unfold num
  by_cases c : s.size = 0
  · rw [if_pos ((toList_nil s).2 c), if_pos (List.eq_nil_of_length_eq_zero (by rw [bytesOf_length]; exact c))]
  · rw [if_neg (mt (toList_nil s).1 c), if_neg (fun h => c (by rw [← bytesOf_length, h]; rfl))]
    exact numeral_loop sign base hs hb hb2 s hz s.size k 0 0 (by omega) (by omega) (by omega) (by omega)
theorem text_visible_eq (c : Int) : text_visible.f c = some (vis c) := by
  unfold text_visible.f vis
  split
  · simp [*]
  · have : ¬ 33 ≤ c := by omega
    simp [this]
theorem Numeral_j0 (s : ByteArray) (hz : s.size ≤ 140737488351232) (k : Nat) (hk : s.size + 23 < k) : text_Numeral.j0 k s false = some (if bytesOf s = [] then (0, 20) else if bt s 0 = 45 then num (-1) 10 ((bytesOf s).drop 1) else if bt s 0 = 36 then num 1 16 ((bytesOf s).drop 1) else if bt s 0 = 37 then num 1 2 ((bytesOf s).drop 1) else num 1 10 (bytesOf s)) := by
  obtain ⟨k, rfl⟩ : ∃ m, k = m + 1 := ⟨k - 1, by omega⟩
  simp only [text_Numeral.j0, text_parts.f]
  have es : (s.extract 1 s.size).size ≤ s.size := by rw [ByteArray.size_extract]; omega
  by_cases c : s.size = 0
  · rw [if_neg (by simp), if_pos ((toList_nil s).2 c), if_pos (List.eq_nil_of_length_eq_zero (by rw [bytesOf_length]; exact c))]
    simp only [Option.bind_some]
    rw [if_pos ((toList_nil s).2 c)]
  · have hne : ¬ bytesOf s = [] := fun h => c (by rw [← bytesOf_length, h]; rfl)
    rw [if_neg (by simp), if_neg (mt (toList_nil s).1 c), if_neg hne, if_pos (show 0 < (s.size : Int) by omega)]
    by_cases c1 : bt s 0 = 45
    · rw [if_pos c1, if_pos c1, if_pos (by omega)]
      simp only [Option.bind_some]
      rw [num_eq (-1) 10 (by omega) (by omega) (by omega) _ (by omega) k (by omega), bytes_extract]
    · rw [if_neg c1, if_neg c1]
      by_cases c2 : bt s 0 = 36
      · rw [if_pos c2, if_pos c2, if_pos (by omega)]
        simp only [Option.bind_some]
        rw [num_eq 1 16 (by omega) (by omega) (by omega) _ (by omega) k (by omega), bytes_extract]
      · rw [if_neg c2, if_neg c2]
        by_cases c3 : bt s 0 = 37
        · rw [if_pos c3, if_pos c3, if_pos (by omega)]
          simp only [Option.bind_some]
          rw [num_eq 1 2 (by omega) (by omega) (by omega) _ (by omega) k (by omega), bytes_extract]
        · rw [if_neg c3, if_neg c3]
          simp only [Option.bind_some]
          rw [num_eq 1 10 (by omega) (by omega) (by omega) _ (by omega) k (by omega)]
theorem Numeral_eq (s : ByteArray) (hz : s.size ≤ 140737488351232) (k : Nat) (hk : s.size + 23 < k) : text_Numeral.f k s = some (numeral (bytesOf s)) := by
  have h0 := Numeral_j0 s hz k hk
  have ht : text_Numeral.j0 k s true = if 1 < (s.size : Int) then some (bt s 1 % 65536, 0) else none := by
    obtain ⟨k, rfl⟩ : ∃ m, k = m + 1 := ⟨k - 1, by omega⟩
    simp [text_Numeral.j0, u16_wrap]
  unfold text_Numeral.f numeral
  rw [rd_bytesOf, rd_bytesOf, rd_bytesOf, bytesOf_length]
  by_cases c : (s.size : Int) = 3
  · have c' : s.size = 3 := by omega
    rw [if_pos c, if_pos (by omega)]
    by_cases c1 : bt s 0 = 39
    · rw [if_pos c1, if_pos (by omega)]
      by_cases c2 : bt s 2 = 39
      · rw [if_pos c2, if_pos (by omega), text_visible_eq]
        simp only [Option.bind_some]
        cases hv : vis (bt s 1) with
        | true =>
          have := bt_range s 1
          rw [ht, if_pos (by omega), if_pos ⟨c', c1, c2, rfl⟩]
          congr 2
          omega
        | false => rw [h0, if_neg (by simp : ¬ (s.size = 3 ∧ bt s 0 = 39 ∧ bt s 2 = 39 ∧ false = true))]
      · rw [if_neg c2, h0, if_neg (show ¬ (s.size = 3 ∧ bt s 0 = 39 ∧ bt s 2 = 39 ∧ vis (bt s 1) = true) from fun h => c2 h.2.2.1)]
    · rw [if_neg c1, h0, if_neg (show ¬ (s.size = 3 ∧ bt s 0 = 39 ∧ bt s 2 = 39 ∧ vis (bt s 1) = true) from fun h => c1 h.2.1)]
  · rw [if_neg c, h0, if_neg (show ¬ (s.size = 3 ∧ bt s 0 = 39 ∧ bt s 2 = 39 ∧ vis (bt s 1) = true) from fun h => c (by have := h.1; omega))]
theorem rd_app_r (P : List Int) (c : Int) (R : List Int) : rd (P ++ c :: R) (P.length : Int) = c := by simp [rd, List.getD_eq_getElem?_getD]
/-! ### the search -/
theorem search_loop (L : List Int) (x : Int) (hn : L.length ≤ 2000010) (p : Nat) (hp : p ≤ L.length) (hA : ∀ j : Nat, j < p → rd L j < x) (hB : ∀ j : Nat, p ≤ j → j < L.length → x ≤ rd L j) (d : Nat) :
    ∀ (k lo hi : Nat), lo ≤ p → p ≤ hi → hi ≤ L.length → hi - lo ≤ d → d + 1 < k → slices_BinarySearch_int_int.l0 k L x L.length lo hi = some ((p : Int), decide (p < L.length ∧ rd L p = x)) := by
  induction d with
  | zero =>
    intro k lo hi h1 h2 h3 h4 hk
    obtain ⟨k, rfl⟩ : ∃ q, k = q + 1 := ⟨k - 1, by omega⟩
    obtain rfl : lo = p := by omega
    obtain rfl : hi = lo := by omega
    simp only [slices_BinarySearch_int_int.l0, slices_isNaN_int.f, Option.bind_some]
    rw [if_neg (by omega)]
    by_cases c : hi < L.length
    · rw [if_pos (by omega), if_pos (by omega), if_pos (by omega)]
      by_cases g : rd L hi = x
      · rw [if_pos g]; simp [c, g]
      · rw [if_neg g]; simp [g]
    · rw [if_neg (by omega)]; simp [c]
  | succ d ih =>
    intro k lo hi h1 h2 h3 h4 hk
    obtain ⟨k, rfl⟩ : ∃ q, k = q + 1 := ⟨k - 1, by omega⟩
    by_cases c : lo = hi
    · subst c
      exact ih (k + 1) lo lo h1 h2 h3 (by omega) (by omega)
    · have w : wrap64 ((IntKind.u64.wrap (wrap64 ((lo : Int) + (hi : Int)))) / 2) = (((lo + hi) / 2 : Nat) : Int) := by
        have e : IntKind.u64.wrap ((lo : Int) + hi) = (lo : Int) + hi := by simp [IntKind.wrap, IntKind.bits, IntKind.signed]; omega
        rw [wrap64_u (x := (lo : Int) + hi) (by omega) (by omega), e, wrap64_u (by omega) (by omega)]; omega
      have lt : ∀ a b : Int, cmp_Less_int.f a b = some (decide (a < b)) := fun a b => by simp [cmp_Less_int.f, cmp_isNaN_int.f]
      simp only [slices_BinarySearch_int_int.l0, w, lt, Option.bind_some]
      rw [if_pos (by omega), if_pos (by omega), if_pos (by omega)]
      by_cases g : (lo + hi) / 2 < p
      · rw [if_pos (by simpa using hA _ g), wrap64_u (x := (((lo + hi) / 2 : Nat) : Int) + 1) (by omega) (by omega)]
        exact ih k ((lo + hi) / 2 + 1) hi (by omega) h2 h3 (by omega) (by omega)
      · have hb := hB ((lo + hi) / 2) (by omega) (by omega)
        rw [if_neg (by rw [decide_eq_true_eq]; omega)]
        exact ih k lo ((lo + hi) / 2) h1 (by omega) (by omega) (by omega) (by omega)
theorem search_eq (A B : List Int) (x : Int) (hn : (A ++ B).length ≤ 2000010) (hA : ∀ a ∈ A, a < x) (hB : ∀ b ∈ B, x ≤ b) (k : Nat) (hk : 2000020 < k) :
    slices_BinarySearch_int_int.f k (A ++ B) x = some ((A.length : Int), decide (B.head? = some x)) := by
  unfold slices_BinarySearch_int_int.f
  have g1 : ∀ j : Nat, j < A.length → rd (A ++ B) j ∈ A := fun j hj => by
    have : rd (A ++ B) j = A[j] := by simp [rd, List.getD_eq_getElem?_getD, List.getElem?_append_left hj, hj]
    rw [this]; exact List.getElem_mem _
  have g2 : ∀ j : Nat, A.length ≤ j → j < (A ++ B).length → rd (A ++ B) j ∈ B := fun j h1 h2 => by
    have h3 : j - A.length < B.length := by rw [List.length_append] at h2; omega
    simp [rd, List.getD_eq_getElem?_getD, List.getElem?_append_right h1, h3]
  have := search_loop (A ++ B) x hn A.length (by simp) (fun j hj => hA _ (g1 j hj)) (fun j h1 h2 => hB _ (g2 j h1 h2)) (A ++ B).length k 0 (A ++ B).length (by omega) (by simp) (Nat.le_refl _) (by omega) (by omega)
  rw [show ((0 : Nat) : Int) = 0 from rfl] at this
  rw [this]
  congr 2
  cases B with
  | nil => simp
  | cons b r =>
    have e : rd (A ++ b :: r) (A.length : Int) = b := rd_app_r A b r
    rw [e]; simp
/-! ### places, by counting -/
def pos (s : ByteArray) : Nat → Int × Int
  | 0 => (1, 1)
  | n + 1 => if bt s n = 10 then ((pos s n).1 + 1, 1) else ((pos s n).1, (pos s n).2 + 1)
theorem pos_lines (s : ByteArray) (n : Nat) : ∃ C : List Int, 0 :: lnsTo s n = C ++ [(n : Int) - (pos s n).2 + 1] ∧ (C.length : Int) = (pos s n).1 - 1 ∧ (∀ c ∈ C, c < (n : Int) - (pos s n).2 + 1) ∧ 1 ≤ (pos s n).2 ∧ (pos s n).2 ≤ n + 1 := by
  induction n with
  | zero => exact ⟨[], by simp [lnsTo, pos], by simp [pos], by simp, by simp [pos], by simp [pos]⟩
  | succ n ih =>
    obtain ⟨C, h1, h2, h3, h4, h5⟩ := ih
    simp only [lnsTo, pos]
    by_cases c : bt s n = 10
    · simp only [if_pos c]
      refine ⟨C ++ [(n : Int) - (pos s n).2 + 1], ?_, ?_, ?_, by omega, by omega⟩
      · rw [← h1]; simp
        try omega
      · simp; omega
      · intro a ha
        rcases List.mem_append.1 ha with ha | ha
        · have := h3 a ha; omega
        · obtain rfl := List.mem_singleton.1 ha; omega
    · simp only [if_neg c]
      refine ⟨C, ?_, h2, ?_, by omega, by omega⟩
      · rw [List.append_nil, h1]; congr 2; omega
      · intro a ha; have := h3 a ha; omega
theorem lnsTo_more (s : ByteArray) (n d : Nat) : ∃ R : List Int, lnsTo s (n + d) = lnsTo s n ++ R ∧ ∀ r ∈ R, (n : Int) < r := by
  induction d with
  | zero => exact ⟨[], by simp, by simp⟩
  | succ d ih =>
    obtain ⟨R, h1, h2⟩ := ih
    show ∃ R : List Int, lnsTo s (n + d) ++ (if bt s ((n + d : Nat) : Int) = 10 then [((n + d : Nat) : Int) + 1] else []) = _ ∧ _
    rw [h1]
    refine ⟨R ++ (if bt s ((n + d : Nat) : Int) = 10 then [((n + d : Nat) : Int) + 1] else []), by rw [List.append_assoc], ?_⟩
    intro r hr
    rcases List.mem_append.1 hr with hr | hr
    · exact h2 r hr
    · split at hr
      · obtain rfl := List.mem_singleton.1 hr; omega
      · cases hr
def PS (s : ByteArray) (o : Int) : S24 := ⟨(pos s (mn (mx o 0) s.size).toNat).1, (pos s (mn (mx o 0) s.size).toNat).2⟩
theorem pos_bd (s : ByteArray) (n : Nat) : 1 ≤ (pos s n).1 ∧ (pos s n).1 ≤ n + 1 := by
  induction n with
  | zero => simp [pos]
  | succ n ih => simp only [pos]; split <;> simp <;> omega
theorem places_round (s : ByteArray) (hz : s.size ≤ 2000000) (n : Nat) (hn : n ≤ s.size) (k : Nat) (hk : 2000020 < k) :
    ∃ i f, slices_BinarySearch_int_int.f k (0 :: lnsTo s s.size) n = some (i, f) ∧
      (f = true → i = (pos s n).1 - 1) ∧ (f = false → i = (pos s n).1) ∧ 0 ≤ (pos s n).1 - 1 ∧ (pos s n).1 - 1 < ((0 :: lnsTo s s.size).length : Int) ∧ rd (0 :: lnsTo s s.size) ((pos s n).1 - 1) = (n : Int) - (pos s n).2 + 1 := by
  obtain ⟨C, h1, h2, h3, h4, h5⟩ := pos_lines s n
  obtain ⟨R, r1, r2⟩ := lnsTo_more s n (s.size - n)
  rw [show n + (s.size - n) = s.size by omega] at r1
  have hl := lnsTo_length s s.size
  have e0 : 0 :: lnsTo s s.size = C ++ ((n : Int) - (pos s n).2 + 1) :: R := by rw [r1, ← List.cons_append, h1, List.append_assoc]; rfl
  have e1 : rd (0 :: lnsTo s s.size) ((pos s n).1 - 1) = (n : Int) - (pos s n).2 + 1 := by rw [e0, ← h2]; exact rd_app_r C _ R
  have e2 : (pos s n).1 - 1 < ((0 :: lnsTo s s.size).length : Int) := by rw [e0, ← h2]; simp; omega
  have hlen : (0 :: lnsTo s s.size).length ≤ 2000010 := by simp; omega
  by_cases c : (pos s n).2 = 1
  · have hs := search_eq C (((n : Int) - (pos s n).2 + 1) :: R) n (by rw [← e0]; exact hlen) (fun a ha => by have := h3 a ha; omega) (fun b hb => by
      rcases List.mem_cons.1 hb with rfl | hb
      · omega
      · have := r2 b hb; omega) k hk
    rw [← e0] at hs
    refine ⟨_, _, hs, fun _ => h2, fun hf => ?_, by omega, e2, e1⟩
    simp at hf; omega
  · have hs := search_eq (C ++ [(n : Int) - (pos s n).2 + 1]) R n (by rw [List.append_assoc, List.singleton_append, ← e0]; exact hlen) (fun a ha => by
      rcases List.mem_append.1 ha with ha | ha
      · have := h3 a ha; omega
      · obtain rfl := List.mem_singleton.1 ha; omega) (fun b hb => by have := r2 b hb; omega) k hk
    rw [List.append_assoc, List.singleton_append, ← e0] at hs
    refine ⟨_, _, hs, fun hf => ?_, fun _ => by simp; omega, by omega, e2, e1⟩
    exfalso
    cases R with
    | nil => simp at hf
    | cons r R' => simp at hf; have := r2 r (by simp); omega
theorem bind_at {α β : Type} {o : Option α} {a : α} {f : α → Option β} (h : o = some a) : o.bind f = f a := by rw [h]; rfl
theorem places_loop (s : ByteArray) (hz : s.size ≤ 2000000) (offs : List Int) (ho : offs.length ≤ 2000010) (d : Nat) : ∀ (k i : Nat) (x8 : List S24), i + d = offs.length → x8.length ≤ i → 2000030 + d < k →
    text_Places.l0 k s (0 :: lnsTo s s.size) x8 offs offs.length i = some (x8 ++ (offs.drop i).map (PS s)) := by
  induction d with
  | zero =>
    intro k i x8 hi hx hk
    obtain ⟨k, rfl⟩ : ∃ q, k = q + 1 := ⟨k - 1, by omega⟩
    simp only [text_Places.l0]
    rw [if_neg (by omega), List.drop_eq_nil_of_le (by omega)]; simp
  | succ d ih =>
    intro k i x8 hi hx hk
    obtain ⟨k, rfl⟩ : ∃ q, k = q + 1 := ⟨k - 1, by omega⟩
    have c1 : (i : Int) < (offs.length : Int) := by omega
    have c2 : (0 : Int) ≤ (i : Int) := Int.natCast_nonneg i
    have c3 : x8.length < 8796093022208 := by omega
    have fin := ih k (i + 1) (x8 ++ [PS s (rd offs i)]) (by omega) (by simp; omega) (by omega)
    have fin2 : x8 ++ [PS s (rd offs i)] ++ (offs.drop (i + 1)).map (PS s) = x8 ++ (offs.drop i).map (PS s) := by rw [rd_drop offs i (by omega)]; simp
    have nxt : wrap64 ((i : Int) + 1) = ((i + 1 : Nat) : Int) := by rw [wrap64_u (by omega) (by omega)]; omega
    have hm : 0 ≤ mn (mx (rd offs i) 0) s.size ∧ mn (mx (rd offs i) 0) s.size ≤ s.size := by unfold mn mx; split <;> split <;> omega
    obtain ⟨n, hn⟩ := Int.eq_ofNat_of_zero_le hm.1
    have hn' : n ≤ s.size := by omega
    obtain ⟨j, f, hs, hf1, hf0, b0, b1, hr⟩ := places_round s hz n hn' k (by omega)
    have pb := pos_bd s n
    have pl := pos_lines s n
    have hq : 1 ≤ (pos s n).2 ∧ (pos s n).2 ≤ n + 1 := by obtain ⟨C, _, _, _, h4, h5⟩ := pl; exact ⟨h4, h5⟩
    have hP : PS s (rd offs i) = ⟨(pos s n).1, (pos s n).2⟩ := by unfold PS; rw [hn, Int.toNat_natCast]
    have wc : wrap64 (wrap64 ((n : Int) - ((n : Int) - (pos s n).2 + 1)) + 1) = (pos s n).2 := by
      rw [wrap64_u (x := (n : Int) - ((n : Int) - (pos s n).2 + 1)) (by omega) (by omega), wrap64_u (by omega) (by omega)]; omega
    have wl : wrap64 ((pos s n).1 - 1 + 1) = (pos s n).1 := by rw [wrap64_u (by omega) (by omega)]; omega
    have wl2 : wrap64 ((pos s n).1 - 1) = (pos s n).1 - 1 := wrap64_u (by omega) (by omega)
    rw [fin2, hP, ← nxt, ← wl, ← wc, ← hr] at fin
    rw [← hn] at hs
    rw [text_Places.l0]
    refine (if_pos c1).trans ((if_pos c2).trans ((if_pos c1).trans ((bind_at hs).trans ?_)))
    dsimp only
    rw [hn]
    cases f with
    | true =>
      obtain rfl := hf1 rfl
      exact (if_pos rfl).trans ((if_pos b0).trans ((if_pos b1).trans ((if_pos c3).trans fin)))
    | false =>
      obtain rfl := hf0 rfl
      refine (if_neg (by simp)).trans ?_
      rw [wl2]
      exact (if_pos b0).trans ((if_pos b1).trans ((if_pos c3).trans fin))
theorem Places_eq (s : ByteArray) (hz : s.size ≤ 2000000) (offs : List Int) (ho : offs.length ≤ 2000010) (k : Nat) (hk : 4100000 < k) : text_Places.f k s offs = some (offs.map (PS s)) := by
  unfold text_Places.f text_lines.f
  rw [if_pos (by omega)]
  simp only [Option.bind_some]
  have := places_loop s hz offs ho offs.length k 0 [] (by omega) (by simp) (by omega)
  rw [show ((0 : Nat) : Int) = 0 from rfl] at this
  simpa using this
theorem PS_at (s : ByteArray) (n : Nat) (hn : n ≤ s.size) : PS s n = ⟨(pos s n).1, (pos s n).2⟩ := by
  unfold PS
  rw [show mn (mx (n : Int) 0) s.size = (n : Int) by unfold mn mx; split <;> split <;> omega, Int.toNat_natCast]
end Go.Proofs.Ytembdahclmffjaa.Pure
