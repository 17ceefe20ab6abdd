/- The document's Diff over numbers alone: it answers what the program's does. -/
import Derived.Test.YtpjdgndbcjinjaaSc
import Derived.Test.YtpjdgndbcjinjaaPx12
import Derived.Test.YtpjdgndbcjinjaaPx13
namespace Go.Proofs.Ytpjdgndbcjinjaa.P
open Go.RowKit Go.Proofs.YtpjdgndbcjinjaaW.PrintWords Go.Proofs.YtpjdgndbcjinjaaW.PrintLast Go.Proofs.YtpjdgndbcjinjaaW.PrintMore Go.Proofs.Ytpjdgndbcjinjaa.Mine
set_option linter.unusedVariables false
set_option linter.unusedSimpArgs false
def to43 (c : S42) : S43 := ⟨c.f0, c.f1, c.f2, c.f3⟩
theorem dl_add (a b : List Int) : ∀ m n i, dl a b (m + n) i = dl a b m i ++ dl a b n (i + m)
  | 0, n, i => by simp [dl]
  | m + 1, n, i => by
    rw [show m + 1 + n = (m + n) + 1 by omega]
    simp only [dl]
    rw [dl_add a b m n (i + 1), show i + 1 + m = i + (m + 1) by omega]
    split <;> rfl
theorem RDiff_row (a b : List Int) (ha : a.length = 3072) (hb : b.length = 3072) (y : Nat) (hy : y < 48) (k : Nat) : ∀ (n x : Nat) (acc : List S43), x + n = 64 → acc.length ≤ 64 * y + x →
    wispref20_Diff.l1 (n + 1 + k) a b acc (y : Int) (x : Int) = wispref20_Diff.l0 k a b (acc ++ (dl a b n (64 * y + x)).map to43) ((y + 1 : Nat) : Int)
  | 0, x, acc, h, hl => by
    rw [show 0 + 1 + k = k + 1 by omega, wispref20_Diff.l1, if_neg (by omega), wrapI (by omega) (by omega)]
    simp [dl]
  | n + 1, x, acc, h, hl => by
    have hw : wrap64 (wrap64 ((y : Int) * 64) + (x : Int)) = ((64 * y + x : Nat) : Int) := by
      rw [wrapI (i := (y : Int) * 64) (by omega) (by omega), wrapI (by omega) (by omega)]; omega
    rw [show n + 1 + 1 + k = (n + 1 + k) + 1 by omega, wispref20_Diff.l1, if_pos (by omega), hw, if_pos (Int.natCast_nonneg _), if_pos (by omega), if_pos (by omega), wrapI (i := (x : Int) + 1) (by omega) (by omega)]
    simp only [dl]
    by_cases e : rd a ((64 * y + x : Nat) : Int) = rd b ((64 * y + x : Nat) : Int)
    · rw [if_pos e, if_pos e]
      exact RDiff_row a b ha hb y hy k n (x + 1) acc (by omega) (by omega)
    · rw [if_neg e, if_neg e, if_pos (by omega)]
      refine (RDiff_row a b ha hb y hy k n (x + 1) _ (by omega) (by simp; omega)).trans ?_
      rw [List.map_cons, List.append_assoc]
      have e2 : to43 (chg a b (64 * y + x)) = ⟨(x : Int), (y : Int), rd a ((64 * y + x : Nat) : Int), rd b ((64 * y + x : Nat) : Int)⟩ := by
        unfold to43 chg
        simp only [show (64 * y + x) % 64 = x by omega, show (64 * y + x) / 64 = y by omega]
      rw [e2]
      rfl
theorem RDiff_l0 (a b : List Int) (ha : a.length = 3072) (hb : b.length = 3072) (q : Nat) : ∀ (m y : Nat) (acc : List S43), y + m = 48 → acc.length ≤ 64 * y →
    wispref20_Diff.l0 (66 * m + 1 + q) a b acc (y : Int) = some (acc ++ (dl a b (64 * m) (64 * y)).map to43, 0)
  | 0, y, acc, h, hl => by
    rw [show 66 * 0 + 1 + q = q + 1 by omega, wispref20_Diff.l0, if_neg (by omega)]
    simp [dl]
  | m + 1, y, acc, h, hl => by
    rw [show 66 * (m + 1) + 1 + q = (64 + 1 + (66 * m + 1 + q)) + 1 by omega, wispref20_Diff.l0, if_pos (by omega)]
    refine (RDiff_row a b ha hb y (by omega) (66 * m + 1 + q) 64 0 acc (by omega) (by omega)).trans ?_
    have := dl_len a b 64 (64 * y + 0)
    rw [RDiff_l0 a b ha hb q m (y + 1) _ (by omega) (by rw [List.length_append, List.length_map]; omega), List.append_assoc, ← List.map_append, show 64 * (m + 1) = 64 + 64 * m by omega, dl_add, Nat.add_zero, show 64 * y + 64 = 64 * (y + 1) by omega]
/-- Diff of any bytes -/
def diffA (a b : List Int) : List S42 × Int := if a.length = 3072 ∧ b.length = 3072 then (dl a b 3072 0, 0) else ([], 2)
theorem diffA_len (a b : List Int) : (diffA a b).1.length ≤ 3072 := by
  unfold diffA
  split
  · exact dl_len a b 3072 0
  · simp
theorem Diff_any (a b : List Int) (k : Nat) (hk : 3074 ≤ k) : shot_Diff.f k a b = some (diffA a b) := by
  unfold diffA
  by_cases h : a.length = 3072 ∧ b.length = 3072
  · rw [if_pos h]
    have := Diff_f a b h.1 h.2 (k - 3074)
    rwa [show 3074 + (k - 3074) = k by omega] at this
  · rw [if_neg h]
    obtain ⟨k, rfl⟩ : ∃ m, k = m + 1 := ⟨k - 1, by omega⟩
    unfold shot_Diff.f shot_screen.f
    by_cases ha : a.length = 3072
    · have hb : ¬ b.length = 3072 := fun hb => h ⟨ha, hb⟩
      have e1 : ((a.length : Int) == 3072) = true := beq_iff_eq.2 (by omega)
      have e2 : ((b.length : Int) == 3072) = false := beq_eq_false_iff_ne.2 (by omega)
      rw [Option.bind_some, e1, if_pos rfl, Option.bind_some, e2, shot_Diff.j0, if_pos (by rfl)]
    · have e1 : ((a.length : Int) == 3072) = false := beq_eq_false_iff_ne.2 (by omega)
      rw [Option.bind_some, e1, if_neg (by decide), shot_Diff.j0, if_pos rfl]
theorem RDiff_any (a b : List Int) (k : Nat) (hk : 3200 ≤ k) : wispref20_Diff.f k a b = some ((diffA a b).1.map to43, (diffA a b).2) := by
  unfold diffA
  obtain ⟨k, rfl⟩ : ∃ m, k = m + 1 := ⟨k - 1, by omega⟩
  unfold wispref20_Diff.f
  by_cases h : a.length = 3072 ∧ b.length = 3072
  · have e2 : ((b.length : Int) != 3072) = false := by rw [h.2]; rfl
    rw [if_pos h, if_pos (by omega), e2, wispref20_Diff.j0, if_neg (by decide)]
    have := RDiff_l0 a b h.1 h.2 (k - 3169) 48 0 [] (by omega) (by simp)
    rw [show 66 * 48 + 1 + (k - 3169) = k by omega] at this
    exact this
  · rw [if_neg h]
    by_cases ha : a.length = 3072
    · have hb : ¬ b.length = 3072 := fun hb => h ⟨ha, hb⟩
      have e2 : ((b.length : Int) != 3072) = true := bne_iff_ne.2 (by omega)
      rw [if_pos (by omega), e2, wispref20_Diff.j0, if_pos rfl]; rfl
    · rw [if_neg (by omega), wispref20_Diff.j0, if_pos rfl]; rfl
theorem rd42 (l : List S42) (i : Nat) : rd_T43 (l.map to43) (i : Int) = to43 (rd_T42 l (i : Int)) := by
  unfold rd_T43 rd_T42
  rw [Int.toNat_natCast, List.getD_eq_getElem?_getD, List.getD_eq_getElem?_getD, List.getElem?_map]
  cases l[i]? <;> rfl
theorem same_l0 (l : List S42) (hl : l.length ≤ 4611686018427387900) : ∀ (n q i : Nat), i + n = l.length → wisplaw20_same.l0 (n + 1 + q) l (l.map to43) (i : Int) = some true
  | 0, q, i, h => by rw [show 0 + 1 + q = q + 1 by omega, wisplaw20_same.l0, if_neg (by omega)]
  | n + 1, q, i, h => by
    rw [show n + 1 + 1 + q = (n + 1 + q) + 1 by omega, wisplaw20_same.l0, if_pos (by omega), if_pos (Int.natCast_nonneg i), if_pos (by rw [List.length_map]; omega), rd42, if_pos (show (rd_T42 l (i : Int)).f0 = (to43 (rd_T42 l (i : Int))).f0 from rfl), if_pos (show (rd_T42 l (i : Int)).f1 = (to43 (rd_T42 l (i : Int))).f1 from rfl), if_pos (show (rd_T42 l (i : Int)).f2 = (to43 (rd_T42 l (i : Int))).f2 from rfl), if_pos (show (rd_T42 l (i : Int)).f3 = (to43 (rd_T42 l (i : Int))).f3 from rfl), wrapL (by omega) (by omega), show (i : Int) + 1 = ((i + 1 : Nat) : Int) by omega]
    exact same_l0 l hl n q (i + 1) (by omega)
theorem same_ok (l : List S42) (hl : l.length ≤ 4611686018427387900) : wisplaw20_same.f (l.length + 1) l (l.map to43) = some true := by
  unfold wisplaw20_same.f
  rw [List.length_map, if_pos rfl]
  exact same_l0 l hl l.length 0 0 (by omega)
end Go.Proofs.Ytpjdgndbcjinjaa.P
