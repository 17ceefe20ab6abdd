/- The words of a text one by one: each stands at its place; where an error is told, the scan goes up to it. -/
import Derived.Test.YtembdahclmffjaaTf
import Derived.Test.YtembdahclmffjaaPx15
namespace Go.Proofs.Ytembdahclmffjaa.Pure
set_option linter.unusedSimpArgs false
set_option linter.unusedVariables false
open Go.RowKit Go.Proofs.Ytembdahclmffjaa.P Go.Proofs.YtembdahclmffjaaW.PrintWords Go.Proofs.YtembdahclmffjaaW.PrintLast Go.Proofs.YtembdahclmffjaaW.PrintMore
theorem Goes.trans {s : ByteArray} {i m p : Nat} {T U : List S30} (h : Goes s i m T) (g : Goes s m p U) : Goes s i p (T ++ U) := by
  induction h with
  | refl i => exact g
  | blank h1 h2 h3 ih => exact .blank h1 h2 (ih g)
  | line h1 h2 h3 h4 h5 h6 ih => exact .line h1 h2 h3 h4 h5 (ih g)
  | paren h1 h2 h3 h4 h4' h5 h6 ih => exact .paren h1 h2 h3 h4 h4' h5 (ih g)
  | num h1 h2 h3 h4 h4' h5 h6 h7 ih => exact .num h1 h2 h3 h4 h4' h5 h6 (ih g)
  | word h1 h2 h3 h4 h4' h5 h6 h6' h7 ih => exact .word h1 h2 h3 h4 h4' h5 h6 h6' (ih g)
theorem first_neg {t : ByteArray} {c : UInt8} (h : ¬ firstIdx t c < 0) : ∃ n : Nat, firstIdx t c = (n : Int) := by
  rcases firstIdx_bd t c with h1 | ⟨n, h1, _⟩
  · omega
  · exact ⟨n, h1⟩
/-- one step of the scan -/
theorem M_cases (s : ByteArray) (d i : Nat) :
    (M s (d + 1) i = ([], none)) ∨ (∃ e, i < s.size ∧ (e = 91 ∨ e = 92 ∨ e = 93 ∨ e = 21) ∧ M s (d + 1) i = ([], some (i, e))) ∨
    (∃ j, i < j ∧ j ≤ s.size ∧ (∀ m T, Goes s j m T → Goes s i m T) ∧ M s (d + 1) i = M s d j) ∨
    (∃ t, i < wend s (s.size - i) i ∧ wend s (s.size - i) i ≤ s.size ∧ ¬ (wordOf s i).size > 31 ∧ t.f1 = wordOf s i ∧ t.f3 = ⟨(pos s i).1, (pos s i).2⟩ ∧ (∀ m T, Goes s (wend s (s.size - i) i) m T → Goes s i m (t :: T)) ∧ M s (d + 1) i = (t :: (M s d (wend s (s.size - i) i)).1, (M s d (wend s (s.size - i) i)).2)) := by
  simp only [M]
  by_cases c0 : s.size ≤ i
  · rw [if_pos c0]; exact .inl rfl
  · rw [if_neg c0]
    by_cases c1 : bl (bt s (i : Int)) = true
    · rw [if_pos c1]; exact .inr (.inr (.inl ⟨i + 1, by omega, by omega, fun m T h => .blank (by omega) c1 h, rfl⟩))
    · rw [if_neg c1]
      by_cases c2 : pt (bt s (i : Int)) = true
      · rw [if_pos c2]
        have g1 : i < wend s (s.size - i) i := by
          obtain ⟨q, hq⟩ : ∃ q, s.size - i = q + 1 := ⟨s.size - i - 1, by omega⟩
          rw [hq]; exact wend_gt c2
        have g2 := (wend_le s (s.size - i) i).2
        by_cases c3 : (wordOf s i).toList = ([92] : List UInt8)
        · rw [if_pos c3]
          by_cases c : firstIdx (s.extract (wend s (s.size - i) i) s.size) 10 < 0
          · rw [if_pos c]; exact .inl rfl
          · rw [if_neg c]
            obtain ⟨n, hn⟩ := first_neg c
            have hb := (firstIdx_spec hn).1
            rw [ByteArray.size_extract] at hb
            rw [hn, Int.toNat_natCast]
            exact .inr (.inr (.inl ⟨_, by omega, by omega, fun m T h => .line (by omega) c1 c2 c3 hn h, rfl⟩))
        · rw [if_neg c3]
          by_cases c4 : (wordOf s i).toList = ([40] : List UInt8)
          · rw [if_pos c4]
            by_cases c : firstIdx (s.extract (wend s (s.size - i) i) s.size) 41 < 0
            · rw [if_pos c]; exact .inr (.inl ⟨92, by omega, by omega, rfl⟩)
            · rw [if_neg c]
              obtain ⟨n, hn⟩ := first_neg c
              have hb := (firstIdx_spec hn).1
              rw [ByteArray.size_extract] at hb
              rw [hn, Int.toNat_natCast]
              exact .inr (.inr (.inl ⟨_, by omega, by omega, fun m T h => .paren (by omega) c1 c2 c3 c4 hn h, rfl⟩))
          · rw [if_neg c4]
            by_cases c5 : (wordOf s i).size > 31
            · rw [if_pos c5]; exact .inr (.inl ⟨93, by omega, by omega, rfl⟩)
            · rw [if_neg c5]
              by_cases c6 : (numeral (bytesOf (wordOf s i))).2 = 0
              · rw [if_pos c6]; exact .inr (.inr (.inr ⟨_, g1, by omega, c5, rfl, rfl, fun m T h => .num (by omega) c1 c2 c3 c4 c5 c6 h, rfl⟩))
              · rw [if_neg c6]
                by_cases c7 : (numeral (bytesOf (wordOf s i))).2 = 21
                · rw [if_pos c7]; exact .inr (.inl ⟨21, by omega, by omega, rfl⟩)
                · rw [if_neg c7]; exact .inr (.inr (.inr ⟨_, g1, by omega, c5, rfl, rfl, fun m T h => .word (by omega) c1 c2 c3 c4 c5 c6 c7 h, rfl⟩))
      · rw [if_neg c2]; exact .inr (.inl ⟨91, by omega, by omega, rfl⟩)
theorem M_err (s : ByteArray) : ∀ (d i : Nat) (T : List S30) (o : Nat) (e : Int), M s d i = (T, some (o, e)) → o < s.size ∧ (e = 91 ∨ e = 92 ∨ e = 93 ∨ e = 21) ∧ Goes s i o T
  | 0, i, T, o, e, h => by simp [M] at h
  | d + 1, i, T, o, e, h => by
    rcases M_cases s d i with h1 | ⟨e1, h1, h2, h3⟩ | ⟨j, h1, h2, h3, h4⟩ | ⟨t, h1, h2, h3, h4, h5, h6, h7⟩
    · rw [h1] at h; simp at h
    · rw [h3] at h
      simp only [Prod.mk.injEq, Option.some.injEq] at h
      obtain ⟨rfl, rfl, rfl⟩ := h
      exact ⟨h1, h2, .refl _⟩
    · rw [h4] at h
      obtain ⟨a, b, c⟩ := M_err s d j T o e h
      exact ⟨a, b, h3 _ _ c⟩
    · rw [h7] at h
      simp only [Prod.mk.injEq] at h
      obtain ⟨rfl, h⟩ := h
      obtain ⟨a, b, c⟩ := M_err s d _ _ o e (Prod.ext rfl h)
      exact ⟨a, b, h6 _ _ c⟩
theorem M_cons (s : ByteArray) : ∀ (d i : Nat) (t : S30) (T : List S30) (er : Er), M s d i = (t :: T, er) →
    ∃ a e d', i ≤ a ∧ a < e ∧ e ≤ s.size ∧ e ≤ a + 31 ∧ t.f1 = s.extract a e ∧ t.f3 = ⟨(pos s a).1, (pos s a).2⟩ ∧ Goes s i e [t] ∧ M s d' e = (T, er)
  | 0, i, t, T, er, h => by simp [M] at h
  | d + 1, i, t, T, er, h => by
    rcases M_cases s d i with h1 | ⟨e1, h1, h2, h3⟩ | ⟨j, h1, h2, h3, h4⟩ | ⟨t', h1, h2, h3, h4, h5, h6, h7⟩
    · rw [h1] at h; simp at h
    · rw [h3] at h; simp at h
    · rw [h4] at h
      obtain ⟨a, e, d', k1, k2, k3, k4, k5, k6, k7, k8⟩ := M_cons s d j t T er h
      exact ⟨a, e, d', by omega, k2, k3, k4, k5, k6, h3 _ _ k7, k8⟩
    · rw [h7] at h
      simp only [Prod.mk.injEq, List.cons.injEq] at h
      obtain ⟨⟨rfl, h8⟩, h9⟩ := h
      refine ⟨i, wend s (s.size - i) i, d, Nat.le_refl _, h1, h2, ?_, h4, h5, h6 _ _ (.refl _), Prod.ext h8 h9⟩
      unfold wordOf at h3
      rw [ByteArray.size_extract] at h3
      omega
/-! ### places are told apart -/
theorem pos_succ (s : ByteArray) (n : Nat) : pos s (n + 1) = if bt s (n : Int) = 10 then ((pos s n).1 + 1, 1) else ((pos s n).1, (pos s n).2 + 1) := rfl
theorem pos_lt (s : ByteArray) (i : Nat) : ∀ d, (pos s i).1 < (pos s (i + d + 1)).1 ∨ ((pos s i).1 = (pos s (i + d + 1)).1 ∧ (pos s i).2 < (pos s (i + d + 1)).2)
  | 0 => by
    have := pos2_bd s i
    rw [Nat.add_zero, pos_succ]
    by_cases c : bt s (i : Int) = 10
    · rw [if_pos c]; left; dsimp only; omega
    · rw [if_neg c]; right; dsimp only; omega
  | d + 1 => by
    have ih := pos_lt s i d
    have := pos2_bd s (i + d + 1)
    rw [show i + (d + 1) + 1 = (i + d + 1) + 1 by omega, pos_succ]
    by_cases c : bt s ((i + d + 1 : Nat) : Int) = 10
    · rw [if_pos c]; left; dsimp only; omega
    · rw [if_neg c]; dsimp only; omega
theorem pos_ne (s : ByteArray) {i j : Nat} (h : i < j) : ¬ ((pos s i).1 = (pos s j).1 ∧ (pos s i).2 = (pos s j).2) := by
  have := pos_lt s i (j - i - 1)
  rw [show i + (j - i - 1) + 1 = j by omega] at this
  omega
theorem offset_loop (s : ByteArray) (hz : s.size ≤ 2000000) (n : Nat) (hn : n ≤ s.size) : ∀ (d i k : Nat), i + d = n → 2 * d + 2 < k → wisplaw09_offset.l0 k s (pos s i).1 (pos s i).2 (i : Int) (pos s n).1 (pos s n).2 = some (n : Int)
  | 0, i, k, h, hk => by
    obtain ⟨k, rfl⟩ : ∃ q, k = q + 2 := ⟨k - 2, by omega⟩
    obtain rfl : i = n := by omega
    rw [wisplaw09_offset.l0, if_pos (by omega), if_pos rfl, show ((pos s i).2 == (pos s i).2) = true by simp, wisplaw09_offset.j1, if_pos rfl]
  | d + 1, i, k, h, hk => by
    obtain ⟨k, rfl⟩ : ∃ q, k = q + 2 := ⟨k - 2, by omega⟩
    have hb := pos_bd s i
    have hb2 := pos2_bd s i
    have ih := offset_loop s hz n hn d (i + 1) k (by omega) (by omega)
    have hj : wisplaw09_offset.j1 (k + 1) s (pos s i).1 (pos s i).2 (i : Int) false (pos s n).1 (pos s n).2 = some (n : Int) := by
      have w3 : wrap64 ((i : Int) + 1) = ((i + 1 : Nat) : Int) := by rw [wrap64_u (by omega) (by omega)]; omega
      rw [wisplaw09_offset.j1, if_neg (show ¬ (false = true) by simp), if_pos (by omega), if_pos (by omega), w3]
      clear w3
      by_cases c : bt s (i : Int) = 10
      · rw [pos_succ, if_pos c] at ih
        rw [if_pos c, wrap64_u (by omega) (by omega)]
        exact ih
      · rw [pos_succ, if_neg c] at ih
        rw [if_neg c, wrap64_u (by omega) (by omega)]
        exact ih
    have hne := pos_ne s (show i < n by omega)
    rw [wisplaw09_offset.l0, if_pos (by omega)]
    by_cases c1 : (pos s i).1 = (pos s n).1
    · rw [if_pos c1, show ((pos s i).2 == (pos s n).2) = false by simpa using fun h => hne ⟨c1, h⟩]; exact hj
    · rw [if_neg c1]; exact hj
theorem offset_eq (s : ByteArray) (hz : s.size ≤ 2000000) (n : Nat) (hn : n ≤ s.size) (k : Nat) (hk : 2 * s.size + 2 < k) : wisplaw09_offset.f k s (pos s n).1 (pos s n).2 = some (n : Int) :=
  offset_loop s hz n hn n 0 k (by omega) (by omega)
end Go.Proofs.Ytembdahclmffjaa.Pure
