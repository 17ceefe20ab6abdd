/- The document's Pack and Unpack over numbers alone: they answer what the program's do. -/
import Derived.Test.YtpjdgndbcjinjaaSc
import Derived.Test.YtpjdgndbcjinjaaPx15
namespace Go.Proofs.Ytpjdgndbcjinjaa.P
open Go.RowKit Go.Proofs.YtpjdgndbcjinjaaW.PrintWords Go.Proofs.YtpjdgndbcjinjaaW.PrintLast Go.Proofs.YtpjdgndbcjinjaaW.PrintMore Go.Proofs.Ytpjdgndbcjinjaa.Mine
set_option linter.unusedVariables false
set_option linter.unusedSimpArgs false
theorem drop_rd {s : List Int} {j : Nat} (h : j < s.length) : s.drop j = rd s (j : Int) :: s.drop (j + 1) := by
  rw [List.drop_eq_getElem_cons h]
  congr 1
  unfold rd
  rw [Int.toNat_natCast, List.getD_eq_getElem?_getD, List.getElem?_eq_getElem h]; rfl
theorem RPack_emit (s acc : List Int) (i n q : Nat) (hi : i < 3072) (hn : 1 ≤ n) (hn2 : n ≤ 256) (hs : s.length = 3072) (ha : acc.length ≤ 2 * i) (h : i + n = 3072 ∨ (i + n < 3072 ∧ (rd s ((i + n : Nat) : Int) ≠ rd s (i : Int) ∨ n = 256))) :
    wispref20_Pack.l1 (q + 1) s acc (i : Int) (n : Int) = wispref20_Pack.l0 q s (acc ++ [(n : Int) - 1, rd s (i : Int)]) ((i + n : Nat) : Int) := by
  have e1 : wrap64 ((i : Int) + (n : Int)) = ((i + n : Nat) : Int) := by rw [wrapI (by omega) (by omega)]; omega
  have e2 : wrap64 ((n : Int) - 1) % 256 = (n : Int) - 1 := by rw [wrapI (by omega) (by omega)]; omega
  rw [wispref20_Pack.l1, e1, e2]
  rcases h with h | ⟨h, h2⟩
  · rw [if_neg (by omega), if_pos (Int.natCast_nonneg i), if_pos (by omega), Option.bind_some, if_pos (by simp; omega)]
  · rw [if_pos (by omega), if_pos (Int.natCast_nonneg _), if_pos (by omega), if_pos (Int.natCast_nonneg i), if_pos (by omega)]
    by_cases h3 : rd s ((i + n : Nat) : Int) = rd s (i : Int)
    · have h4 : n = 256 := h2.resolve_left (fun z => z h3)
      rw [if_pos h3, if_neg (by omega), Option.bind_some, if_pos (by simp; omega)]
    · rw [if_neg h3, Option.bind_some, if_pos (by simp; omega)]
theorem RPack_l1 (s : List Int) (hs : s.length = 3072) (i : Nat) (hi : i < 3072) (acc : List Int) (ha : acc.length ≤ 2 * i) : ∀ (d n q : Nat), n + d = 256 → 1 ≤ n → i + n ≤ 3072 →
    wispref20_Pack.l1 (rl (rd s (i : Int)) d (s.drop (i + n)) + 1 + q) s acc (i : Int) (n : Int) = wispref20_Pack.l0 q s (acc ++ [((n + rl (rd s (i : Int)) d (s.drop (i + n)) : Nat) : Int) - 1, rd s (i : Int)]) ((i + (n + rl (rd s (i : Int)) d (s.drop (i + n))) : Nat) : Int) := by
  intro d
  induction d with
  | zero =>
    intro n q h1 h2 h3
    have e : rl (rd s (i : Int)) 0 (s.drop (i + n)) = 0 := by cases s.drop (i + n) <;> rfl
    rw [e, show 0 + 1 + q = q + 1 by omega, Nat.add_zero]
    exact RPack_emit s acc i n q hi h2 (by omega) hs ha (by rcases Nat.lt_or_ge (i + n) 3072 with h | h; exact .inr ⟨h, .inr (by omega)⟩; exact .inl (by omega))
  | succ d ih =>
    intro n q h1 h2 h3
    rcases Nat.lt_or_ge (i + n) 3072 with h | h
    · have hd := drop_rd (s := s) (j := i + n) (by omega)
      rw [hd]
      simp only [rl]
      by_cases e : rd s ((i + n : Nat) : Int) = rd s (i : Int)
      · rw [if_pos e]
        have h9 := ih (n + 1) q (by omega) (by omega) (by omega)
        rw [show i + (n + 1) = i + n + 1 by omega] at h9
        generalize rl (rd s (i : Int)) d (s.drop (i + n + 1)) = r at h9 ⊢
        rw [show r + 1 + 1 + q = (r + 1 + q) + 1 by omega]
        have e1 : wrap64 ((i : Int) + (n : Int)) = ((i + n : Nat) : Int) := by rw [wrapI (by omega) (by omega)]; omega
        have e3 : wrap64 ((n : Int) + 1) = ((n + 1 : Nat) : Int) := by rw [wrapI (by omega) (by omega)]; omega
        rw [wispref20_Pack.l1, e1, e3, if_pos (by omega), if_pos (Int.natCast_nonneg _), if_pos (by omega), if_pos (Int.natCast_nonneg i), if_pos (by omega), if_pos e, if_pos (by omega), h9]
        rw [show n + 1 + r = n + (r + 1) by omega]
      · rw [if_neg e, show 0 + 1 + q = q + 1 by omega, Nat.add_zero]
        exact RPack_emit s acc i n q hi h2 (by omega) hs ha (.inr ⟨h, .inl e⟩)
    · rw [List.drop_of_length_le (by omega)]
      rw [show rl (rd s (i : Int)) (d + 1) [] = 0 from rfl, show 0 + 1 + q = q + 1 by omega, Nat.add_zero]
      exact RPack_emit s acc i n q hi h2 (by omega) hs ha (.inl (by omega))
theorem RPack_l0 (s : List Int) (hs : s.length = 3072) : ∀ (n i : Nat) (acc : List Int) (k : Nat), i + n = 3072 → acc.length ≤ 2 * i → 2 * n + 1 ≤ k →
    wispref20_Pack.l0 k s acc (i : Int) = some (acc ++ packOf (runsOf n (s.drop i)), 0) := by
  intro n
  induction n using Nat.strongRecOn with
  | _ n ih =>
    intro i acc k hi ha hk
    obtain ⟨k, rfl⟩ : ∃ m, k = m + 1 := ⟨k - 1, by omega⟩
    cases n with
    | zero =>
      rw [wispref20_Pack.l0, if_neg (by omega)]
      simp [runsOf, packOf]
    | succ n =>
      rw [wispref20_Pack.l0, if_pos (by omega), drop_rd (s := s) (j := i) (by omega)]
      simp only [runsOf]
      have hle := rl_le (rd s (i : Int)) 255 (s.drop (i + 1))
      have hl := RPack_l1 s hs i (by omega) acc ha 255 1 (k - (rl (rd s (i : Int)) 255 (s.drop (i + 1)) + 1)) rfl (Nat.le_refl _) (by omega)
      rw [List.length_drop] at hle
      generalize hr : rl (rd s (i : Int)) 255 (s.drop (i + 1)) = r at hl hle ⊢
      rw [show r + 1 + (k - (r + 1)) = k by omega] at hl
      refine hl.trans ?_
      rw [ih (n - r) (by omega) (i + (1 + r)) _ _ (by omega) (by simp; omega) (by omega)]
      rw [show packOf ((r + 1, rd s (i : Int)) :: runsOf n ((s.drop (i + 1)).drop r)) = (wrap64 (((r + 1 : Nat) : Int) - 1) % 256) :: rd s (i : Int) :: packOf (runsOf n ((s.drop (i + 1)).drop r)) from rfl]
      have hr255 : r ≤ 255 := by rw [← hr]; exact rl_le_k _ _ _
      rw [show wrap64 (((r + 1 : Nat) : Int) - 1) % 256 = ((1 + r : Nat) : Int) - 1 by unfold wrap64; omega, List.drop_drop, show i + 1 + r = i + (1 + r) by omega, runsOf_fuel n (n - r) _ (by rw [List.length_drop]; omega) (by rw [List.length_drop]; omega)]
      simp
/-- Pack of any bytes -/
def packA (s : List Int) : List Int × Int := if s.length = 3072 then (pk s, 0) else ([], 2)
theorem Pack_any (s : List Int) : shot_Pack.f s = some (packA s) := by
  unfold packA shot_Pack.f pk
  split <;> rfl
theorem RPack_any (s : List Int) (k : Nat) (hk : 6145 ≤ k) : wispref20_Pack.f k s = some (packA s) := by
  unfold packA wispref20_Pack.f
  by_cases hs : s.length = 3072
  · rw [if_pos hs, if_pos (by omega)]
    have h := RPack_l0 s hs 3072 0 [] k rfl (by simp) (by omega)
    rw [List.drop_zero, List.nil_append] at h
    unfold pk
    rw [hs]
    exact h
  · rw [if_neg hs, if_neg (by omega)]
theorem packA_B {s : List Int} (h : allB s) : allB (packA s).1 := by
  unfold packA
  split
  · exact pkB h
  · intro x hx; simp at hx
theorem packA_len (s : List Int) : (packA s).1.length ≤ 6144 := by
  unfold packA
  split
  · rename_i h; exact (pk_len h).2
  · simp
/-! ### Unpack -/
def unA (b : List Int) : List Int × Int := if (unF b []).length = 3072 ∧ pk (unF b []) = b then (unF b [], 0) else ([], 2)
theorem unA_len (b : List Int) : (unA b).1.length ≤ 3072 := by
  unfold unA
  split
  · rename_i h; show (unF b []).length ≤ 3072; omega
  · simp
theorem Unpack_any (b : List Int) (hb : allB b) (hL : b.length ≤ 140737488351232) (k : Nat) (hk : b.length + 2 ≤ k) : shot_Unpack.f k b = some (unA b) := Unpack_f b hb hL k hk
theorem RUn_fin (b out : List Int) (hb : allB b) (ho : allB out) (i : Int) (k : Nat) (hk : 6145 ≤ k) : wispref20_Unpack.j1 (k + 1) b out i false = fin b out := by
  rw [wispref20_Unpack.j1, if_neg (by decide), RPack_any out k hk]
  unfold fin packA
  by_cases h : out.length = 3072
  · rw [if_pos h, Option.bind_some, if_pos rfl]
    have hs := str_same (pkB ho) hb
    by_cases e : pk out = b
    · rw [if_pos (hs.2 e), if_pos ⟨h, e⟩]
    · rw [if_neg (fun z => e (hs.1 z)), if_neg (fun z => e z.2)]
  · rw [if_neg h, Option.bind_some, if_neg (by decide), if_neg (fun z => h z.1)]
theorem RUn_l1 (b : List Int) (hL : b.length ≤ 140737488351232) (i : Nat) (a x : Int) (h1 : i + 1 < b.length) (ha : rd b (i : Int) = a) (hx : rd b ((i + 1 : Nat) : Int) = x) (ha0 : 0 ≤ a) (ha1 : a < 256) : ∀ (m j q : Nat) (acc : List Int), (j : Int) + m = a + 1 → acc.length + m ≤ 4000 →
    wispref20_Unpack.l1 (m + 1 + q) b acc (i : Int) (j : Int) = wispref20_Unpack.l0 q b (acc ++ List.replicate m x) ((i + 2 : Nat) : Int)
  | 0, j, q, acc, h, hl => by
    rw [show 0 + 1 + q = q + 1 by omega, wispref20_Unpack.l1, if_pos (Int.natCast_nonneg i), if_pos (by omega), ha, wrapL (i := a) (by omega) (by omega), if_neg (by omega), wrapL (by omega) (by omega)]
    simp
  | m + 1, j, q, acc, h, hl => by
    rw [show m + 1 + 1 + q = (m + 1 + q) + 1 by omega, wispref20_Unpack.l1, if_pos (Int.natCast_nonneg i), if_pos (by omega), ha, wrapL (i := a) (by omega) (by omega), if_pos (by omega), wrapL (i := (i : Int) + 1) (by omega) (by omega), if_pos (by omega), if_pos (by omega), if_pos (by omega), wrapL (i := (j : Int) + 1) (by omega) (by omega)]
    rw [show (i : Int) + 1 = ((i + 1 : Nat) : Int) by omega, hx, show (j : Int) + 1 = ((j + 1 : Nat) : Int) by omega]
    rw [RUn_l1 b hL i a x h1 ha hx ha0 ha1 m (j + 1) q _ (by omega) (by simp; omega), List.append_assoc, List.replicate_succ]
    rfl
theorem RUn_l0 (b : List Int) (hb : allB b) (hL : b.length ≤ 140737488351232) : ∀ (n : Nat) (rest acc : List Int) (i q : Nat), rest.length ≤ n → b.drop i = rest → i + rest.length = b.length → allB acc → acc.length ≤ 3400 →
    wispref20_Unpack.l0 (300 * n + 6200 + q) b acc (i : Int) = fin b (unF rest acc)
  | n, [], acc, i, q, h, hd, hi, ha, hl => by
    simp at hi
    rw [show 300 * n + 6200 + q = (300 * n + 6198 + q) + 1 + 1 by omega, wispref20_Unpack.l0, wrapL (i := (i : Int) + 1) (by omega) (by omega), if_neg (by omega), RUn_fin b acc hb ha _ _ (by omega)]; rfl
  | n, [x], acc, i, q, h, hd, hi, ha, hl => by
    simp at hi
    rw [show 300 * n + 6200 + q = (300 * n + 6198 + q) + 1 + 1 by omega, wispref20_Unpack.l0, wrapL (i := (i : Int) + 1) (by omega) (by omega), if_neg (by omega), RUn_fin b acc hb ha _ _ (by omega)]; rfl
  | 0, _ :: _ :: _, _, _, _, h, _, _, _, _ => by simp at h
  | n + 1, a :: x :: t, acc, i, q, h, hd, hi, ha, hl => by
    simp only [List.length_cons] at hi h
    have hmem : ∀ y ∈ a :: x :: t, y ∈ b := fun y hy => by rw [← hd] at hy; exact List.mem_of_mem_drop hy
    have hba := hb a (hmem a (by simp))
    have hbx := hb x (hmem x (by simp))
    have hba0 := hba.1
    have hba1 := hba.2
    have h1 := drop_rd (s := b) (j := i) (by omega)
    rw [hd] at h1
    injection h1 with hra h2
    have h3 := drop_rd (s := b) (j := i + 1) (by omega)
    rw [← h2] at h3
    injection h3 with hrx hd2
    rw [show 300 * (n + 1) + 6200 + q = (300 * n + 6498 + q) + 1 + 1 by omega, wispref20_Unpack.l0, wrapL (i := (i : Int) + 1) (by omega) (by omega), if_pos (by omega)]
    by_cases hc : acc.length ≤ 3072
    · rw [decide_eq_true (by omega), wispref20_Unpack.j1, if_pos rfl]
      have h4 := RUn_l1 b hL i a x (by omega) hra.symm hrx.symm hba0 hba1 (a + 1).toNat 0 (300 * n + 6200 + (297 - (a + 1).toNat + q)) acc (by omega) (by omega)
      rw [show (a + 1).toNat + 1 + (300 * n + 6200 + (297 - (a + 1).toNat + q)) = 300 * n + 6498 + q by omega] at h4
      refine h4.trans ?_
      rw [RUn_l0 b hb hL n t _ (i + 2) _ (by omega) (by rw [hd2]) (by omega) (fun y hy => by
        rcases List.mem_append.1 hy with h5 | h5
        · exact ha y h5
        · rw [List.eq_of_mem_replicate h5]; exact hbx) (by rw [List.length_append, List.length_replicate]; omega)]
      simp only [unF]; rw [if_pos hc]
    · rw [decide_eq_false (by omega), RUn_fin b acc hb ha _ _ (by omega)]
      simp only [unF]; rw [if_neg hc]
theorem RUnpack_any (b : List Int) (hb : allB b) (hL : b.length ≤ 140737488351232) (k : Nat) (hk : 300 * b.length + 6200 ≤ k) : wispref20_Unpack.f k b = some (unA b) := by
  have h := RUn_l0 b hb hL b.length b [] 0 (k - (300 * b.length + 6200)) (Nat.le_refl _) rfl (by simp) (fun y hy => by simp at hy) (by simp)
  rw [show 300 * b.length + 6200 + (k - (300 * b.length + 6200)) = k by omega] at h
  exact h
end Go.Proofs.Ytpjdgndbcjinjaa.P
