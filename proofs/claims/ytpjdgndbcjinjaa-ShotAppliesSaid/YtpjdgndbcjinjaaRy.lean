/- Apply over numbers alone: the program's answers what the document's does. -/
import Derived.Test.YtpjdgndbcjinjaaRd
import Derived.Test.YtpjdgndbcjinjaaPx14
namespace Go.Proofs.Ytpjdgndbcjinjaa.P
open Go.RowKit Go.Proofs.YtpjdgndbcjinjaaW.PrintWords Go.Proofs.YtpjdgndbcjinjaaW.PrintLast Go.Proofs.YtpjdgndbcjinjaaW.PrintMore Go.Proofs.Ytpjdgndbcjinjaa.Mine
set_option linter.unusedVariables false
set_option linter.unusedSimpArgs false
/-- changes, one behind the other -/
def apL : List Int → List S42 → List Int × Int
  | x, [] => (x, 0)
  | x, c :: t => if c.f0 < 0 ∨ c.f0 ≥ 64 ∨ c.f1 < 0 ∨ c.f1 ≥ 48 ∨ rd x (64 * c.f1 + c.f0) ≠ c.f2 then ([], 2) else apL (x.set (64 * c.f1 + c.f0).toNat c.f3) t
theorem apL_len : ∀ (l : List S42) (x : List Int), x.length = 3072 → (apL x l).1.length ≤ 3072
  | [], x, h => by simp [apL]; omega
  | c :: t, x, h => by
    simp only [apL]
    split
    · simp
    · exact apL_len t _ (by rw [List.length_set]; exact h)
theorem drop42 {l : List S42} {i : Nat} (h : i < l.length) : l.drop i = rd_T42 l (i : Int) :: l.drop (i + 1) := by
  rw [List.drop_eq_getElem_cons h]
  congr 1
  unfold rd_T42
  rw [Int.toNat_natCast, List.getD_eq_getElem?_getD, List.getElem?_eq_getElem h]; rfl
theorem Ap_l0 (l : List S42) (hl : l.length ≤ 4611686018427387900) : ∀ (n q i : Nat) (x : List Int), i + n = l.length → x.length = 3072 → shot_Apply.l0 (n + 1 + q) x l (l.length : Int) (i : Int) = some (apL x (l.drop i))
  | 0, q, i, x, h, hx => by
    rw [show 0 + 1 + q = q + 1 by omega, shot_Apply.l0, if_neg (by omega), List.drop_of_length_le (by omega)]; rfl
  | n + 1, q, i, x, h, hx => by
    rw [show n + 1 + 1 + q = (n + 1 + q) + 1 by omega, shot_Apply.l0, if_pos (by omega), if_pos (Int.natCast_nonneg i), if_pos (by omega), drop42 (by omega)]
    simp only [apL]
    generalize rd_T42 l (i : Int) = c
    by_cases c0 : c.f0 < 0
    · rw [if_pos c0, if_pos (.inl c0)]
    · rw [if_neg c0]
      by_cases c1 : c.f0 ≥ 64
      · rw [if_pos c1, if_pos (.inr (.inl c1))]
      · rw [if_neg c1]
        by_cases c2 : c.f1 < 0
        · rw [if_pos c2, if_pos (.inr (.inr (.inl c2)))]
        · rw [if_neg c2]
          by_cases c3 : c.f1 ≥ 48
          · rw [if_pos c3, if_pos (.inr (.inr (.inr (.inl c3))))]
          · have hw : wrap64 (wrap64 (c.f1 * 64) + c.f0) = 64 * c.f1 + c.f0 := by
              rw [wrapI (i := c.f1 * 64) (by omega) (by omega), wrapI (by omega) (by omega)]; omega
            rw [if_neg c3, hw, if_pos (by omega), if_pos (by omega)]
            by_cases c4 : rd x (64 * c.f1 + c.f0) = c.f2
            · rw [if_pos c4, if_neg (show ¬ (c.f0 < 0 ∨ c.f0 ≥ 64 ∨ c.f1 < 0 ∨ c.f1 ≥ 48 ∨ rd x (64 * c.f1 + c.f0) ≠ c.f2) by rintro (h | h | h | h | h) <;> first | omega | exact h c4), wrapL (by omega) (by omega), show (i : Int) + 1 = ((i + 1 : Nat) : Int) by omega]
              exact Ap_l0 l hl n q (i + 1) _ (by omega) (by rw [List.length_set]; exact hx)
            · rw [if_neg c4, if_pos (.inr (.inr (.inr (.inr c4))))]
theorem RAp_l0 (l : List S42) (hl : l.length ≤ 4611686018427387900) : ∀ (n q i : Nat) (x : List Int), i + n = l.length → x.length = 3072 → wispref20_Apply.l0 (n + 1 + q) (l.map to43) x (i : Int) = some (apL x (l.drop i))
  | 0, q, i, x, h, hx => by
    rw [show 0 + 1 + q = q + 1 by omega, wispref20_Apply.l0, List.length_map, if_neg (by omega), List.drop_of_length_le (by omega)]; rfl
  | n + 1, q, i, x, h, hx => by
    rw [show n + 1 + 1 + q = (n + 1 + q) + 1 by omega, wispref20_Apply.l0, List.length_map, if_pos (by omega), if_pos (Int.natCast_nonneg i), rd42, drop42 (by omega)]
    simp only [apL]
    generalize rd_T42 l (i : Int) = c
    by_cases c0 : c.f0 < 0
    · rw [if_pos (show (to43 c).f0 < 0 from c0), if_pos (.inl c0)]
    · rw [if_neg (show ¬ (to43 c).f0 < 0 from c0)]
      by_cases c1 : c.f0 ≥ 64
      · rw [if_pos (show (to43 c).f0 ≥ 64 from c1), if_pos (.inr (.inl c1))]
      · rw [if_neg (show ¬ (to43 c).f0 ≥ 64 from c1)]
        by_cases c2 : c.f1 < 0
        · rw [if_pos (show (to43 c).f1 < 0 from c2), if_pos (.inr (.inr (.inl c2)))]
        · rw [if_neg (show ¬ (to43 c).f1 < 0 from c2)]
          by_cases c3 : c.f1 ≥ 48
          · rw [if_pos (show (to43 c).f1 ≥ 48 from c3), if_pos (.inr (.inr (.inr (.inl c3))))]
          · have hw : wrap64 (wrap64 ((to43 c).f1 * 64) + (to43 c).f0) = 64 * c.f1 + c.f0 := by
              show wrap64 (wrap64 (c.f1 * 64) + c.f0) = 64 * c.f1 + c.f0
              rw [wrapI (i := c.f1 * 64) (by omega) (by omega), wrapI (by omega) (by omega)]; omega
            rw [if_neg (show ¬ (to43 c).f1 ≥ 48 from c3), hw, if_pos (by omega), if_pos (by omega)]
            by_cases c4 : rd x (64 * c.f1 + c.f0) = c.f2
            · rw [if_pos (show rd x (64 * c.f1 + c.f0) = (to43 c).f2 from c4), if_neg (show ¬ (c.f0 < 0 ∨ c.f0 ≥ 64 ∨ c.f1 < 0 ∨ c.f1 ≥ 48 ∨ rd x (64 * c.f1 + c.f0) ≠ c.f2) by rintro (h | h | h | h | h) <;> first | omega | exact h c4), wrapL (by omega) (by omega), show (i : Int) + 1 = ((i + 1 : Nat) : Int) by omega]
              exact RAp_l0 l hl n q (i + 1) _ (by omega) (by rw [List.length_set]; exact hx)
            · rw [if_neg (show ¬ rd x (64 * c.f1 + c.f0) = (to43 c).f2 from c4), if_pos (.inr (.inr (.inr (.inr c4))))]
/-- Apply of any bytes and any changes -/
def applyA (x : List Int) (l : List S42) : List Int × Int := if x.length = 3072 then apL x l else ([], 2)
theorem applyA_len (x : List Int) (l : List S42) : (applyA x l).1.length ≤ 3072 := by
  unfold applyA
  split
  · rename_i h; exact apL_len l x h
  · simp
theorem Apply_any (x : List Int) (l : List S42) (hl : l.length ≤ 4611686018427387900) (k : Nat) (hk : l.length + 1 ≤ k) : shot_Apply.f k x l = some (applyA x l) := by
  unfold applyA shot_Apply.f shot_screen.f
  by_cases hx : x.length = 3072
  · have e1 : ((x.length : Int) == 3072) = true := by rw [hx]; rfl
    have e2 : bytes_Clone.f x = some x := by unfold bytes_Clone.f; first | rfl | (rw [if_pos (by omega)])
    rw [if_pos hx, Option.bind_some, e1, if_pos rfl, e2, Option.bind_some]
    have h := Ap_l0 l hl l.length (k - (l.length + 1)) 0 x (by omega) hx
    rw [show l.length + 1 + (k - (l.length + 1)) = k by omega, List.drop_zero] at h
    exact h
  · have e1 : ((x.length : Int) == 3072) = false := beq_eq_false_iff_ne.2 (by omega)
    rw [if_neg hx, Option.bind_some, e1, if_neg (by decide)]
theorem RApply_any (x : List Int) (l : List S42) (hl : l.length ≤ 4611686018427387900) (k : Nat) (hk : l.length + 1 ≤ k) : wispref20_Apply.f k x (l.map to43) = some (applyA x l) := by
  unfold applyA wispref20_Apply.f
  by_cases hx : x.length = 3072
  · rw [if_pos hx, if_pos (by omega), Option.bind_some, if_pos (by simp; omega), List.nil_append]
    have h := RAp_l0 l hl l.length (k - (l.length + 1)) 0 x (by omega) hx
    rw [show l.length + 1 + (k - (l.length + 1)) = k by omega, List.drop_zero] at h
    exact h
  · rw [if_neg hx, if_neg (by omega)]
end Go.Proofs.Ytpjdgndbcjinjaa.P
