/- A text that is cut where the scan stands: its words are those ahead of the cut. -/
import Derived.Test.YtembdahclmffjaaTk0
namespace Go.Proofs.Ytembdahclmffjaa.Pure
set_option linter.unusedSimpArgs false
set_option linter.unusedVariables false
open Go.RowKit Go.Proofs.Ytembdahclmffjaa.P Go.Proofs.YtembdahclmffjaaW.PrintWords Go.Proofs.YtembdahclmffjaaW.PrintLast Go.Proofs.YtembdahclmffjaaW.PrintMore
/-- the scan goes from i on to m, and reads the words T -/
inductive Goes (s : ByteArray) : Nat → Nat → List S30 → Prop
  | refl (i : Nat) : Goes s i i []
  | blank {i m T} : i < s.size → bl (bt s (i : Int)) = true → Goes s (i + 1) m T → Goes s i m T
  | line {i m T} {n : Nat} : i < s.size → ¬ bl (bt s (i : Int)) = true → pt (bt s (i : Int)) = true → (wordOf s i).toList = ([92] : List UInt8) → firstIdx (s.extract (wend s (s.size - i) i) s.size) 10 = (n : Int) → Goes s (wend s (s.size - i) i + n + 1) m T → Goes s i m T
  | paren {i m T} {n : Nat} : i < s.size → ¬ bl (bt s (i : Int)) = true → pt (bt s (i : Int)) = true → ¬ (wordOf s i).toList = ([92] : List UInt8) → (wordOf s i).toList = ([40] : List UInt8) → firstIdx (s.extract (wend s (s.size - i) i) s.size) 41 = (n : Int) → Goes s (wend s (s.size - i) i + n + 1) m T → Goes s i m T
  | num {i m T} : i < s.size → ¬ bl (bt s (i : Int)) = true → pt (bt s (i : Int)) = true → ¬ (wordOf s i).toList = ([92] : List UInt8) → ¬ (wordOf s i).toList = ([40] : List UInt8) → ¬ (wordOf s i).size > 31 → (numeral (bytesOf (wordOf s i))).2 = 0 → Goes s (wend s (s.size - i) i) m T → Goes s i m (⟨2, wordOf s i, (numeral (bytesOf (wordOf s i))).1, ⟨(pos s i).1, (pos s i).2⟩⟩ :: T)
  | word {i m T} : i < s.size → ¬ bl (bt s (i : Int)) = true → pt (bt s (i : Int)) = true → ¬ (wordOf s i).toList = ([92] : List UInt8) → ¬ (wordOf s i).toList = ([40] : List UInt8) → ¬ (wordOf s i).size > 31 → ¬ (numeral (bytesOf (wordOf s i))).2 = 0 → ¬ (numeral (bytesOf (wordOf s i))).2 = 21 → Goes s (wend s (s.size - i) i) m T → Goes s i m (⟨1, wordOf s i, 0, ⟨(pos s i).1, (pos s i).2⟩⟩ :: T)
theorem bt_head (s : ByteArray) (m j : Nat) (hm : m ≤ s.size) (hj : j < m) : bt (s.extract 0 m) (j : Int) = bt s (j : Int) := by
  rw [← rd_bytesOf, ← rd_bytesOf]
  have : bytesOf (s.extract 0 m) = (bytesOf s).take m := by
    unfold bytesOf
    rw [← List.map_take]
    congr 1
    rw [ByteArray.data_extract, Array.toList_extract, List.extract_eq_take_drop]
    simp
  rw [this]
  unfold rd
  rw [Int.toNat_natCast, List.getD_eq_getElem?_getD, List.getD_eq_getElem?_getD, List.getElem?_take_of_lt hj]
theorem size_head (s : ByteArray) (m : Nat) (hm : m ≤ s.size) : (s.extract 0 m).size = m := by rw [ByteArray.size_extract]; omega
theorem wend_congr {s u : ByteArray} : ∀ (d i : Nat), (∀ j : Nat, i ≤ j → j < i + d → bt s (j : Int) = bt u (j : Int)) → wend s d i = wend u d i
  | 0, i, h => rfl
  | d + 1, i, h => by
    simp only [wend]
    rw [h i (Nat.le_refl _) (by omega), wend_congr d (i + 1) (fun j h1 h2 => h j (by omega) (by omega))]
/-- the word's end does not hang on the room behind it -/
theorem wend_short (s : ByteArray) : ∀ (d d' i : Nat), d' ≤ d → wend s d i ≤ i + d' → wend s d' i = wend s d i
  | 0, d', i, h, h1 => by
    obtain rfl : d' = 0 := by omega
    rfl
  | d + 1, 0, i, h, h1 => by
    simp only [wend] at h1 ⊢
    by_cases c : pt (bt s (i : Int)) = true
    · rw [if_pos c] at h1; have := (wend_le s d (i + 1)).1; omega
    · rw [if_neg c]
  | d + 1, d' + 1, i, h, h1 => by
    simp only [wend] at h1 ⊢
    by_cases c : pt (bt s (i : Int)) = true
    · rw [if_pos c] at h1; rw [if_pos c, if_pos c]; exact wend_short s d d' (i + 1) (by omega) (by omega)
    · rw [if_neg c, if_neg c]
theorem wend_head (s : ByteArray) (m i : Nat) (hm : m ≤ s.size) (hi : i ≤ m) (h : wend s (s.size - i) i ≤ m) : wend (s.extract 0 m) ((s.extract 0 m).size - i) i = wend s (s.size - i) i := by
  rw [size_head s m hm, ← wend_short s (s.size - i) (m - i) i (by omega) (by omega)]
  exact wend_congr (m - i) i (fun j h1 h2 => bt_head s m j hm (by omega))
theorem extract_head (s : ByteArray) (m i e : Nat) (he : e ≤ m) : (s.extract 0 m).extract i e = s.extract i e := by
  apply ByteArray.ext
  simp only [ByteArray.data_extract, Array.extract_extract]
  congr 1 <;> omega
theorem Goes.le {s : ByteArray} {i m : Nat} {T} (h : Goes s i m T) : i ≤ m := by
  induction h with
  | refl => exact Nat.le_refl _
  | blank _ _ _ ih => omega
  | line _ _ _ _ _ _ ih => have := fun j d => (wend_le s d j).1; rename_i i _ _ _ _ _ _ _ _ _; have := this i (s.size - i); omega
  | paren _ _ _ _ _ _ _ ih => have := fun j d => (wend_le s d j).1; rename_i i _ _ _ _ _ _ _ _ _ _; have := this i (s.size - i); omega
  | num _ _ _ _ _ _ _ _ ih => have := fun j d => (wend_le s d j).1; rename_i i _ _ _ _ _ _ _ _ _ _; have := this i (s.size - i); omega
  | word _ _ _ _ _ _ _ _ _ ih => have := fun j d => (wend_le s d j).1; rename_i i _ _ _ _ _ _ _ _ _ _ _; have := this i (s.size - i); omega
theorem pos_same (s t : ByteArray) (n : Nat) (h : ∀ j, j < n → bt s (j : Nat) = bt t (j : Nat)) : pos s n = pos t n := by
  induction n with
  | zero => rfl
  | succ n ih => simp only [pos]; rw [h n (by omega), ih (fun j hj => h j (by omega))]
theorem pos_head (s : ByteArray) (m i : Nat) (hm : m ≤ s.size) (hi : i ≤ m) : pos (s.extract 0 m) i = pos s i := pos_same _ _ _ (fun j hj => bt_head s m j hm (by omega))
theorem word_head (s : ByteArray) (m i : Nat) (hm : m ≤ s.size) (hi : i ≤ m) (h : wend s (s.size - i) i ≤ m) : wordOf (s.extract 0 m) i = wordOf s i := by
  unfold wordOf
  rw [wend_head s m i hm hi h, extract_head s m i _ h]
theorem firstIdx_spec {t : ByteArray} {c : UInt8} {n : Nat} (h : firstIdx t c = (n : Int)) : n < t.size ∧ bt t (n : Int) = (c.toNat : Int) ∧ ∀ q : Nat, q < n → bt t (q : Int) ≠ (c.toNat : Int) := by
  unfold firstIdx at h
  split at h
  · rename_i i hi
    obtain rfl : i = n := by omega
    rw [List.find?_range_eq_some] at hi
    obtain ⟨h1, h2, h3⟩ := hi
    have h2' : i < t.size := by simpa using h2
    refine ⟨h2', (byte_at t c i h2').1 h1, fun q hq e => ?_⟩
    have := h3 q hq
    rw [(byte_at t c q (by omega)).2 e] at this
    exact absurd this (by simp)
  · omega
theorem first_head (s : ByteArray) (m e n : Nat) (c : UInt8) (hm : m ≤ s.size) (h : firstIdx (s.extract e s.size) c = (n : Int)) (hn : e + n + 1 ≤ m) : firstIdx ((s.extract 0 m).extract e (s.extract 0 m).size) c = (n : Int) := by
  obtain ⟨h1, h2, h3⟩ := firstIdx_spec h
  rw [bt_tail] at h2
  refine firstIdx_some (by rw [ByteArray.size_extract, size_head s m hm]; omega) ?_ (fun q hq => ?_)
  · rw [bt_tail, bt_head s m _ hm (by omega)]; exact h2
  · have := h3 q hq
    rw [bt_tail] at this
    rw [bt_tail, bt_head s m _ hm (by omega)]; exact this
theorem Goes_head {s : ByteArray} {i m : Nat} {T : List S30} (h : Goes s i m T) (hm : m ≤ s.size) : ∀ d, m ≤ i + d → M (s.extract 0 m) d i = (T, none) := by
  induction h with
  | refl i =>
    intro d hd
    cases d with
    | zero => rfl
    | succ d => simp only [M]; rw [if_pos (by rw [size_head s i hm]; omega)]
  | @blank i m T h1 h2 h3 ih =>
    intro d hd
    have hl := h3.le
    obtain ⟨d, rfl⟩ : ∃ q, d = q + 1 := ⟨d - 1, by omega⟩
    simp only [M]
    rw [if_neg (by rw [size_head s m hm]; omega), bt_head s m i hm (by omega), if_pos h2]
    exact ih hm d (by omega)
  | @line i m T n h1 h2 h3 h4 h5 h6 ih =>
    intro d hd
    have hl := h6.le
    have hw := (wend_le s (s.size - i) i).1
    obtain ⟨d, rfl⟩ : ∃ q, d = q + 1 := ⟨d - 1, by omega⟩
    simp only [M]
    rw [if_neg (by rw [size_head s m hm]; omega), bt_head s m i hm (by omega), if_neg h2, if_pos h3, word_head s m i hm (by omega) (by omega), if_pos h4, wend_head s m i hm (by omega) (by omega), first_head s m _ n 10 hm h5 (by omega), if_neg (by omega), Int.toNat_natCast]
    exact ih hm d (by omega)
  | @paren i m T n h1 h2 h3 h4 h4' h5 h6 ih =>
    intro d hd
    have hl := h6.le
    have hw := (wend_le s (s.size - i) i).1
    obtain ⟨d, rfl⟩ : ∃ q, d = q + 1 := ⟨d - 1, by omega⟩
    simp only [M]
    rw [if_neg (by rw [size_head s m hm]; omega), bt_head s m i hm (by omega), if_neg h2, if_pos h3, word_head s m i hm (by omega) (by omega), if_neg h4, if_pos h4', wend_head s m i hm (by omega) (by omega), first_head s m _ n 41 hm h5 (by omega), if_neg (by omega), Int.toNat_natCast]
    exact ih hm d (by omega)
  | @num i m T h1 h2 h3 h4 h4' h5 h6 h7 ih =>
    intro d hd
    have hl := h7.le
    have hg : i < wend s (s.size - i) i := by
      obtain ⟨q, hq⟩ : ∃ q, s.size - i = q + 1 := ⟨s.size - i - 1, by omega⟩
      rw [hq]; exact wend_gt h3
    obtain ⟨d, rfl⟩ : ∃ q, d = q + 1 := ⟨d - 1, by omega⟩
    simp only [M]
    rw [if_neg (by rw [size_head s m hm]; omega), bt_head s m i hm (by omega), if_neg h2, if_pos h3, word_head s m i hm (by omega) (by omega), if_neg h4, if_neg h4', if_neg h5, if_pos h6, wend_head s m i hm (by omega) (by omega), ih hm d (by omega), pos_head s m i hm (by omega)]
  | @word i m T h1 h2 h3 h4 h4' h5 h6 h6' h7 ih =>
    intro d hd
    have hl := h7.le
    have hg : i < wend s (s.size - i) i := by
      obtain ⟨q, hq⟩ : ∃ q, s.size - i = q + 1 := ⟨s.size - i - 1, by omega⟩
      rw [hq]; exact wend_gt h3
    obtain ⟨d, rfl⟩ : ∃ q, d = q + 1 := ⟨d - 1, by omega⟩
    simp only [M]
    rw [if_neg (by rw [size_head s m hm]; omega), bt_head s m i hm (by omega), if_neg h2, if_pos h3, word_head s m i hm (by omega) (by omega), if_neg h4, if_neg h4', if_neg h5, if_neg h6, if_neg h6', wend_head s m i hm (by omega) (by omega), ih hm d (by omega), pos_head s m i hm (by omega)]
end Go.Proofs.Ytembdahclmffjaa.Pure
