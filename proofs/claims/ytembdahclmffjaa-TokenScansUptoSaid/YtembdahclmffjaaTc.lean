/- What the document's Scan answers: the same plain function of the text. -/
import Derived.Test.YtembdahclmffjaaTb
import Derived.Test.YtembdahclmffjaaPx12
namespace Go.Proofs.Ytembdahclmffjaa.Pure
set_option linter.unusedSimpArgs false
set_option linter.unusedVariables false
open Go.RowKit Go.Proofs.Ytembdahclmffjaa.P Go.Proofs.YtembdahclmffjaaW.PrintWords Go.Proofs.YtembdahclmffjaaW.PrintLast Go.Proofs.YtembdahclmffjaaW.PrintMore
theorem acc_cap9 {base : Int} (hb : 2 ≤ base) (hb2 : base ≤ 16) : ∀ (l : List Int) (n m x y : Int), 0 ≤ n → n ≤ 65536 → 0 ≤ m → m ≤ 100000 → n = (if 65536 < m then 65536 else m) → acc 65536 base n l = some x → acc 100000 base m l = some y → x = (if 65536 < y then 65536 else y) ∧ 0 ≤ y ∧ y ≤ 100000
  | [], n, m, x, y, h0, h1, h2, h3, h4, hx, hy => by
    simp only [acc, Option.some.injEq] at hx hy
    subst hx; subst hy; exact ⟨h4, h2, h3⟩
  | c :: r, n, m, x, y, h0, h1, h2, h3, h4, hx, hy => by
    simp only [acc] at hx hy
    by_cases h : dv c < base
    · rw [if_pos h] at hx hy
      have hd := dv_lt (c := c)
      have m1 : 0 ≤ m * base := Int.mul_nonneg h2 (by omega)
      have n1 : 0 ≤ n * base := Int.mul_nonneg h0 (by omega)
      refine acc_cap9 hb hb2 r _ _ x y ?_ ?_ ?_ ?_ ?_ hx hy
      · split <;> omega
      · split <;> omega
      · split <;> omega
      · split <;> omega
      · by_cases g : 65536 < m
        · rw [if_pos g] at h4
          subst h4
          have m2 : 65536 * base ≤ m * base := Int.mul_le_mul_of_nonneg_right (by omega) (by omega)
          generalize m * base = z at *
          have : 65536 * 2 ≤ 65536 * base := by omega
          generalize 65536 * base = z' at *
          repeat' split
          all_goals omega
        · rw [if_neg g] at h4
          subst h4
          generalize n * base = z at *
          repeat' split
          all_goals omega
    · rw [if_neg h] at hx; cases hx

theorem rblank_eq (c : Int) : wispref09_blank.f c = some (bl c) := by
  unfold wispref09_blank.f bl
  by_cases h1 : c = 9
  · simp [h1]
  · by_cases h2 : c = 10
    · simp [h2]
    · by_cases h3 : c = 13
      · simp [h3]
      · by_cases h4 : c = 32 <;> simp [h1, h2, h3, h4]
theorem rletter_eq (c : Int) : wispref09_letter.f c = some (pt c) := by
  unfold wispref09_letter.f pt
  by_cases h1 : 33 ≤ c
  · simp [h1]
  · simp [h1]
theorem rword_eq (s : ByteArray) (hz : s.size ≤ 2000000) : ∀ (d i k : Nat), i + d = s.size → d + 1 < k → wispref09_word.l0 k s (i : Int) = some ((wend s d i : Nat) : Int)
  | 0, i, k, h, hk => by
    obtain ⟨k, rfl⟩ : ∃ q, k = q + 1 := ⟨k - 1, by omega⟩
    rw [wispref09_word.l0, if_neg (by omega)]; rfl
  | d + 1, i, k, h, hk => by
    obtain ⟨k, rfl⟩ : ∃ q, k = q + 1 := ⟨k - 1, by omega⟩
    rw [wispref09_word.l0, if_pos (by omega), if_pos (by omega), rletter_eq, Option.bind_some]
    simp only [wend]
    by_cases c : pt (bt s (i : Int)) = true
    · rw [if_pos c, if_pos c, wrap64_u (by omega) (by omega), show (i : Int) + 1 = ((i + 1 : Nat) : Int) by omega]
      exact rword_eq s hz d (i + 1) k (by omega) (by omega)
    · rw [if_neg c, if_neg c]
theorem behind_loop (s : ByteArray) (hz : s.size ≤ 2000000) (c : Int) : ∀ (d i k : Nat), i + d = s.size → d + 1 < k →
    (wispref09_behind.l0 k s (i : Int) c = some (-1) ∧ ∀ j : Nat, i ≤ j → j < s.size → bt s (j : Int) ≠ c) ∨
    ∃ j : Nat, i ≤ j ∧ j < s.size ∧ bt s (j : Int) = c ∧ (∀ q : Nat, i ≤ q → q < j → bt s (q : Int) ≠ c) ∧ wispref09_behind.l0 k s (i : Int) c = some ((j : Int) + 1)
  | 0, i, k, h, hk => by
    obtain ⟨k, rfl⟩ : ∃ q, k = q + 1 := ⟨k - 1, by omega⟩
    left
    exact ⟨by rw [wispref09_behind.l0, if_neg (by omega)], fun j h1 h2 => by omega⟩
  | d + 1, i, k, h, hk => by
    obtain ⟨k, rfl⟩ : ∃ q, k = q + 1 := ⟨k - 1, by omega⟩
    rw [wispref09_behind.l0, if_pos (by omega), if_pos (by omega)]
    by_cases g : bt s (i : Int) = c
    · rw [if_pos g, wrap64_u (by omega) (by omega)]
      exact .inr ⟨i, Nat.le_refl _, by omega, g, fun q h1 h2 => by omega, rfl⟩
    · rw [if_neg g, wrap64_u (by omega) (by omega), show (i : Int) + 1 = ((i + 1 : Nat) : Int) by omega]
      rcases behind_loop s hz c d (i + 1) k (by omega) (by omega) with ⟨h1, h2⟩ | ⟨j, h1, h2, h3, h4, h5⟩
      · refine .inl ⟨h1, fun j q1 q2 => ?_⟩
        by_cases e : j = i
        · subst e; exact g
        · exact h2 j (by omega) q2
      · refine .inr ⟨j, by omega, h2, h3, fun q q1 q2 => ?_, h5⟩
        by_cases e : q = i
        · subst e; exact g
        · exact h4 q (by omega) q2
theorem bt_tail (s : ByteArray) (e j : Nat) : bt (s.extract e s.size) (j : Int) = bt s ((e + j : Nat) : Int) := by
  rw [← rd_bytesOf, ← rd_bytesOf, bytes_extract]
  unfold rd
  rw [Int.toNat_natCast, Int.toNat_natCast, List.getD_eq_getElem?_getD, List.getD_eq_getElem?_getD, List.getElem?_drop]
theorem byte_at (t : ByteArray) (c : UInt8) (j : Nat) (hj : j < t.size) : (t[j]! == c) = true ↔ bt t (j : Int) = (c.toNat : Int) := by
  rw [bt_lt t j hj, beq_iff_eq, getElem!_pos t j hj]
  constructor
  · intro h; rw [h]
  · intro h; exact UInt8.toNat_inj.1 (by omega)
theorem firstIdx_none {t : ByteArray} {c : UInt8} (h : ∀ j : Nat, j < t.size → bt t (j : Int) ≠ (c.toNat : Int)) : firstIdx t c = -1 := by
  unfold firstIdx
  split
  · rename_i i hi
    have h1 := List.find?_some hi
    have h2 : i < t.size := by simpa using List.mem_of_find?_eq_some hi
    exact absurd ((byte_at t c i h2).1 h1) (h i h2)
  · rfl
theorem firstIdx_some {t : ByteArray} {c : UInt8} {j : Nat} (hj : j < t.size) (h : bt t (j : Int) = (c.toNat : Int)) (hb : ∀ q : Nat, q < j → bt t (q : Int) ≠ (c.toNat : Int)) : firstIdx t c = (j : Int) := by
  unfold firstIdx
  split
  · rename_i i hi
    have h1 := List.find?_some hi
    have h2 : i < t.size := by simpa using List.mem_of_find?_eq_some hi
    rw [List.find?_range_eq_some] at hi
    obtain ⟨_, _, h3⟩ := hi
    have h4 : ¬ i < j := fun g => hb i g ((byte_at t c i h2).1 h1)
    have h5 : ¬ j < i := fun g => by
      have := h3 j g
      rw [(byte_at t c j hj).2 h] at this
      exact absurd this (by simp)
    have : i = j := by omega
    rw [this]
  · rename_i hn
    rw [List.find?_range_eq_none] at hn
    have := hn j hj
    rw [(byte_at t c j hj).2 h] at this
    exact absurd this (by simp)
theorem behind_eq (s : ByteArray) (hz : s.size ≤ 2000000) (c : UInt8) (e k : Nat) (he : e ≤ s.size) (hk : s.size + 1 < k) :
    wispref09_behind.f k s (e : Int) (c.toNat : Int) = some (if firstIdx (s.extract e s.size) c < 0 then -1 else (e : Int) + firstIdx (s.extract e s.size) c + 1) := by
  unfold wispref09_behind.f
  rcases behind_loop s hz (c.toNat : Int) (s.size - e) e k (by omega) (by omega) with ⟨h1, h2⟩ | ⟨j, h1, h2, h3, h4, h5⟩
  · rw [h1, firstIdx_none (fun j hj => by rw [bt_tail]; rw [ByteArray.size_extract] at hj; exact h2 (e + j) (by omega) (by omega))]
    rfl
  · have := firstIdx_some (t := s.extract e s.size) (c := c) (j := j - e) (by rw [ByteArray.size_extract]; omega) (by rw [bt_tail, show e + (j - e) = j by omega]; exact h3) (fun q hq => by rw [bt_tail]; exact h4 (e + q) (by omega) (by omega))
    rw [h5, this, if_neg (by omega)]
    congr 1; omega
/-! ### numerals -/
theorem rd_step (k : Nat) (s : ByteArray) (base n c : Int) (i : Nat) (hi : i < s.size) (hc : bt s (i : Int) = c) (h0 : 0 ≤ c) (h1 : c ≤ 255) (hb : 2 ≤ base) (hb2 : base ≤ 16) :
    ∃ q, k ≤ q ∧ wispref09_digits.l0 (k + 3) s base n (i : Int) = if dv c < base then wispref09_digits.l0 q s base (mn (wrap64 ((wrap64 (n * base)) + dv c)) 100000) (wrap64 ((i : Int) + 1)) else some (-1) := by
  have i0 : (0 : Int) ≤ (i : Int) := Int.natCast_nonneg i
  have i1 : (i : Int) < (s.size : Int) := by omega
  have w0 : wrap64 c = c := wrap64_u (by omega) (by omega)
  rw [wispref09_digits.l0, if_pos i1, if_pos i0, hc]
  by_cases c1 : 48 ≤ c ∧ c ≤ 57
  · have hd : dv c = c - 48 := by unfold dv; rw [if_pos c1]
    have w1 : wrap64 (c - 48) = c - 48 := wrap64_u (by omega) (by omega)
    rw [if_pos (show c ≥ 48 from c1.1), decide_eq_true c1.2, wispref09_digits.j1, if_pos rfl, if_pos i0, if_pos i1, hc, w0, w1, if_neg (show ¬ c - 48 < 0 by omega), hd]
    by_cases g : c - 48 < base
    · rw [if_neg (show ¬ c - 48 ≥ base by omega)]; exact ⟨k + 1, by omega, (if_pos g).symm⟩
    · rw [if_pos (show c - 48 ≥ base by omega)]; exact ⟨k, by omega, (if_neg g).symm⟩
  · have hj : ∃ q, k ≤ q ∧ wispref09_digits.j1 (k + 2) s base n (i : Int) (-1) false = if dv c < base then wispref09_digits.l0 q s base (mn (wrap64 ((wrap64 (n * base)) + dv c)) 100000) (wrap64 ((i : Int) + 1)) else some (-1) := by
      rw [wispref09_digits.j1, if_neg (show ¬ (false = true) by simp), if_pos i0, if_pos i1, hc]
      by_cases c2 : 97 ≤ c ∧ c ≤ 102
      · have hd : dv c = c - 87 := by unfold dv; rw [if_neg c1, if_pos c2]
        have w1 : wrap64 (c - 97) = c - 97 := wrap64_u (by omega) (by omega)
        have w2 : wrap64 (c - 97 + 10) = c - 87 := by rw [wrap64_u (by omega) (by omega)]; omega
        rw [if_pos (show c ≥ 97 from c2.1), decide_eq_true c2.2, wispref09_digits.j2, if_pos rfl, if_pos i0, if_pos i1, hc, w0, w1, w2, if_neg (show ¬ c - 87 < 0 by omega), hd]
        by_cases g : c - 87 < base
        · rw [if_neg (show ¬ c - 87 ≥ base by omega)]; exact ⟨k, by omega, (if_pos g).symm⟩
        · rw [if_pos (show c - 87 ≥ base by omega)]; exact ⟨k, by omega, (if_neg g).symm⟩
      · have hd : dv c = 99 := by unfold dv; rw [if_neg c1, if_neg c2]
        have hj2 : wispref09_digits.j2 (k + 1) s base n (i : Int) (-1) false = some (-1) := by
          rw [wispref09_digits.j2, if_neg (show ¬ (false = true) by simp), if_pos (show (-1 : Int) < 0 by decide)]
        rw [hd]
        refine ⟨k, by omega, ?_⟩
        rw [if_neg (show ¬ (99 : Int) < base by omega)]
        by_cases c3 : c ≥ 97
        · rw [if_pos c3, decide_eq_false (show ¬ c ≤ 102 by omega), hj2]
        · rw [if_neg c3, hj2]
    by_cases c4 : c ≥ 48
    · rw [if_pos c4, decide_eq_false (show ¬ c ≤ 57 by omega)]; exact hj
    · rw [if_neg c4]; exact hj
theorem rdigits_loop (base : Int) (hb : 2 ≤ base) (hb2 : base ≤ 16) (s : ByteArray) (hz : s.size ≤ 2000000) : ∀ (d i k : Nat) (n : Int), i + d = s.size → 0 ≤ n → n ≤ 100000 → 3 * d + 20 < k →
    wispref09_digits.l0 k s base n (i : Int) = some (match acc 100000 base n ((bytesOf s).drop i) with | none => -1 | some m => m)
  | 0, i, k, n, hi, h0, h1, hk => by
    obtain ⟨k, rfl⟩ : ∃ m, k = m + 1 := ⟨k - 1, by omega⟩
    rw [List.drop_eq_nil_of_le (by rw [bytesOf_length]; omega), wispref09_digits.l0, if_neg (by omega)]
    rfl
  | d + 1, i, k, n, hi, h0, h1, hk => by
    obtain ⟨k, rfl⟩ : ∃ m, k = m + 3 := ⟨k - 3, by omega⟩
    have hl := bytesOf_length s
    have hr := bt_range s (i : Int)
    rw [rd_drop _ i (by omega), rd_bytesOf]
    obtain ⟨c, hc⟩ : ∃ c, bt s (i : Int) = c := ⟨_, rfl⟩
    rw [hc] at hr ⊢
    obtain ⟨q, hq, e⟩ := rd_step k s base n c i (by omega) hc (by omega) (by omega) hb hb2
    rw [e]
    simp only [acc]
    have hd := dv_lt (c := c)
    by_cases g : dv c < base
    · rw [if_pos g, if_pos g]
      have n1 : 0 ≤ n * base := Int.mul_nonneg h0 (by omega)
      have n2 : n * base ≤ 100000 * 16 := Int.mul_le_mul h1 hb2 (by omega) (by omega)
      obtain ⟨z, hz2⟩ : ∃ z, n * base = z := ⟨_, rfl⟩
      rw [hz2] at n1 n2 ⊢
      have w1 : wrap64 z = z := wrap64_u (by omega) (by omega)
      have w2 : wrap64 (z + dv c) = z + dv c := wrap64_u (by omega) (by omega)
      have w3 : wrap64 ((i : Int) + 1) = ((i + 1 : Nat) : Int) := by rw [wrap64_u (by omega) (by omega)]; omega
      rw [w1, w2, w3]
      clear w1 w2 w3
      exact rdigits_loop base hb hb2 s hz d (i + 1) q _ (by omega) (by unfold mn; split <;> omega) (by unfold mn; split <;> omega) (by omega)
    · rw [if_neg g, if_neg g]
/-- the document's number of digits; -1: none -/
def dg9 (base : Int) (r : List Int) : Int := if r = [] then -1 else match acc 100000 base 0 r with | none => -1 | some m => m
theorem rdigits_eq (base : Int) (hb : 2 ≤ base) (hb2 : base ≤ 16) (s : ByteArray) (hz : s.size ≤ 2000000) (k : Nat) (hk : 3 * s.size + 20 < k) : wispref09_digits.f k s base = some (dg9 base (bytesOf s)) := by
  unfold wispref09_digits.f dg9
  have hl := bytesOf_length s
  by_cases c : s.size = 0
  · rw [if_pos (by omega), if_pos (List.eq_nil_of_length_eq_zero (by omega))]
  · rw [if_neg (by omega), if_neg (fun h => c (by rw [← hl, h]; rfl))]
    have := rdigits_loop base hb hb2 s hz s.size 0 k 0 (by omega) (by omega) (by omega) hk
    rw [List.drop_zero] at this
    rw [show (0 : Int) = ((0 : Nat) : Int) from rfl] at this ⊢
    exact this
def N9 (p : Int × Int) : Int × Bool × Bool := if p.2 = 0 then (p.1, true, true) else if p.2 = 21 then (0, true, false) else (0, false, false)
theorem dg9_pos (base : Int) (hb : 2 ≤ base) (hb2 : base ≤ 16) (r : List Int) (k : Nat) : wispref09_Numeral.j4 (k + 1) (dg9 base r) 65535 false = some (N9 (num 1 base r)) := by
  rw [wispref09_Numeral.j4]
  unfold dg9 num
  by_cases c : r = []
  · rw [if_pos c, if_pos c]; rfl
  · rw [if_neg c, if_neg c]
    cases hx : acc 65536 base 0 r with
    | none => rw [(acc_none 65536 100000 base _ 0 0).1 hx]; rfl
    | some x =>
      cases hy : acc 100000 base 0 r with
      | none => rw [(acc_none 65536 100000 base _ 0 0).2 hy] at hx; cases hx
      | some y =>
        obtain ⟨e, h0, h1⟩ := acc_cap9 hb hb2 _ 0 0 x y (by omega) (by omega) (by omega) (by omega) (by simp) hx hy
        dsimp only
        unfold fin
        rw [if_neg (by omega)]
        by_cases g : y > 65535
        · rw [if_pos g, if_neg (by omega), if_pos (by omega)]; rfl
        · rw [if_neg g, if_neg (by simp), if_neg (by omega), if_neg (by omega), u16_wrap]
          have : x = y := by omega
          subst this
          simp [N9]
theorem dg9_neg (r : List Int) (k : Nat) : wispref09_Numeral.j4 (k + 1) (dg9 10 r) 32768 true = some (N9 (num (-1) 10 r)) := by
  rw [wispref09_Numeral.j4]
  unfold dg9 num
  by_cases c : r = []
  · rw [if_pos c, if_pos c]; rfl
  · rw [if_neg c, if_neg c]
    cases hx : acc 65536 10 0 r with
    | none => rw [(acc_none 65536 100000 10 _ 0 0).1 hx]; rfl
    | some x =>
      cases hy : acc 100000 10 0 r with
      | none => rw [(acc_none 65536 100000 10 _ 0 0).2 hy] at hx; cases hx
      | some y =>
        obtain ⟨e, h0, h1⟩ := acc_cap9 (by omega) (by omega) _ 0 0 x y (by omega) (by omega) (by omega) (by omega) (by simp) hx hy
        dsimp only
        unfold fin
        rw [if_neg (by omega)]
        by_cases g : y > 32768
        · rw [if_pos g, if_pos (by omega)]; rfl
        · rw [if_neg g, if_pos rfl, if_neg (by omega), if_neg (by omega), u16_wrap, wrap64_u (by omega) (by omega)]
          have : x = y := by omega
          subst this
          rw [Int.tmod_eq_emod_of_nonneg (by omega)]
          simp [N9]
theorem RNum_eq (s : ByteArray) (hz : s.size ≤ 2000000) (k : Nat) (hk : 3 * s.size + 30 < k) : wispref09_Numeral.f k s = some (N9 (numeral (bytesOf s))) := by
  obtain ⟨k, rfl⟩ : ∃ m, k = m + 5 := ⟨k - 5, by omega⟩
  have hl := bytesOf_length s
  have es : (s.extract 1 s.size).size ≤ s.size := by rw [ByteArray.size_extract]; omega
  have h0 : wispref09_Numeral.j0 (k + 5) s 65535 false false = some (N9 (if bytesOf s = [] then (0, 20) else if bt s 0 = 45 then num (-1) 10 ((bytesOf s).drop 1) else if bt s 0 = 36 then num 1 16 ((bytesOf s).drop 1) else if bt s 0 = 37 then num 1 2 ((bytesOf s).drop 1) else num 1 10 (bytesOf s))) := by
    by_cases c : s.size = 0
    · rw [if_pos (List.eq_nil_of_length_eq_zero (by omega)), wispref09_Numeral.j0, if_neg (by simp), if_neg (by omega), wispref09_Numeral.j1, if_neg (by simp), if_neg (by omega), wispref09_Numeral.j2, if_neg (by simp), if_neg (by omega), wispref09_Numeral.j3, if_neg (by simp), rdigits_eq 10 (by omega) (by omega) s hz _ (by omega), Option.bind_some, dg9_pos 10 (by omega) (by omega)]
      have : bytesOf s = [] := List.eq_nil_of_length_eq_zero (by omega)
      rw [this]; rfl
    · have hne : ¬ bytesOf s = [] := fun h => c (by rw [← hl, h]; rfl)
      rw [if_neg hne, wispref09_Numeral.j0, if_neg (by simp), if_pos (by omega), if_pos (by omega), wispref09_Numeral.j1]
      by_cases c2 : bt s 0 = 36
      · rw [if_pos (by simp [c2]), if_pos (by omega), rdigits_eq 16 (by omega) (by omega) _ (by omega) _ (by omega), Option.bind_some, dg9_pos 16 (by omega) (by omega), bytes_extract, if_neg (by omega), if_pos c2]
      · rw [if_neg (by simp [c2]), if_pos (by omega), if_pos (by omega), wispref09_Numeral.j2]
        by_cases c3 : bt s 0 = 37
        · rw [if_pos (by simp [c3]), if_pos (by omega), rdigits_eq 2 (by omega) (by omega) _ (by omega) _ (by omega), Option.bind_some, dg9_pos 2 (by omega) (by omega), bytes_extract, if_neg (by omega), if_neg c2, if_pos c3]
        · rw [if_neg (by simp [c3]), if_pos (by omega), if_pos (by omega), wispref09_Numeral.j3]
          by_cases c1 : bt s 0 = 45
          · rw [if_pos (by simp [c1]), if_pos (by omega), rdigits_eq 10 (by omega) (by omega) _ (by omega) _ (by omega), Option.bind_some, dg9_neg, bytes_extract, if_pos c1]
          · rw [if_neg (by simp [c1]), rdigits_eq 10 (by omega) (by omega) s hz _ (by omega), Option.bind_some, dg9_pos 10 (by omega) (by omega), if_neg c1, if_neg c2, if_neg c3]
  have ht : 1 < s.size → 33 ≤ bt s 1 → bt s 1 ≤ 126 → wispref09_Numeral.j0 (k + 5) s 65535 false true = some (N9 (bt s 1, 0)) := by
    intro h1 h2 h3
    rw [wispref09_Numeral.j0, if_pos rfl, if_pos (by omega), wrap64_u (by omega) (by omega), wispref09_Numeral.j4, if_neg (by omega), if_neg (by omega), if_neg (by simp), u16_wrap]
    simp [N9]; omega
  unfold wispref09_Numeral.f numeral
  rw [rd_bytesOf, rd_bytesOf, rd_bytesOf, hl]
  by_cases c : (s.size : Int) = 3
  · have c' : s.size = 3 := by omega
    rw [if_pos c, if_pos (by omega)]
    by_cases c1 : bt s 0 = 39
    · rw [if_pos c1, if_pos (by omega)]
      by_cases c2 : bt s 2 = 39
      · rw [if_pos c2, if_pos (by omega)]
        by_cases c3 : 33 ≤ bt s 1
        · rw [if_pos (by omega)]
          by_cases c4 : bt s 1 ≤ 126
          · rw [decide_eq_true c4, ht (by omega) c3 c4, if_pos ⟨c', c1, c2, by simp [vis, c3, c4]⟩]
          · rw [decide_eq_false c4, h0, if_neg (show ¬ (s.size = 3 ∧ bt s 0 = 39 ∧ bt s 2 = 39 ∧ vis (bt s 1) = true) from fun h => c4 (by have := h.2.2.2; simp [vis] at this; exact this.2))]
        · rw [if_neg (by omega), h0, if_neg (show ¬ (s.size = 3 ∧ bt s 0 = 39 ∧ bt s 2 = 39 ∧ vis (bt s 1) = true) from fun h => c3 (by have := h.2.2.2; simp [vis] at this; exact this.1))]
      · rw [if_neg c2, h0, if_neg (show ¬ (s.size = 3 ∧ bt s 0 = 39 ∧ bt s 2 = 39 ∧ vis (bt s 1) = true) from fun h => c2 h.2.2.1)]
    · rw [if_neg c1, h0, if_neg (show ¬ (s.size = 3 ∧ bt s 0 = 39 ∧ bt s 2 = 39 ∧ vis (bt s 1) = true) from fun h => c1 h.2.1)]
  · rw [if_neg c, h0, if_neg (show ¬ (s.size = 3 ∧ bt s 0 = 39 ∧ bt s 2 = 39 ∧ vis (bt s 1) = true) from fun h => c (by have := h.1; omega))]
end Go.Proofs.Ytembdahclmffjaa.Pure
