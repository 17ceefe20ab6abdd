/- Ends of texts, and two lists of tokens that are the same. -/
import Derived.Test.YtembdahclmffjaaTd
import Derived.Test.YtembdahclmffjaaTse
namespace Go.Proofs.Ytembdahclmffjaa.Pure
set_option linter.unusedSimpArgs false
set_option linter.unusedVariables false
open Go.RowKit Go.Proofs.Ytembdahclmffjaa.P Go.Proofs.YtembdahclmffjaaW.PrintWords Go.Proofs.YtembdahclmffjaaW.PrintLast Go.Proofs.YtembdahclmffjaaW.PrintMore
theorem End_eq (s : ByteArray) (hz : s.size ≤ 2000000) (k : Nat) (hk : 5000000 < k) : token_End.f k s = some (pos s s.size) := by
  unfold token_End.f
  rw [place_eq s hz s.size (Nat.le_refl _) k (by omega)]; rfl
theorem At_loop (s : ByteArray) (hz : s.size ≤ 2000000) (n : Nat) (hn : n ≤ s.size) : ∀ (d i k : Nat), i + d = n → d + 1 < k → wispref09_At.l0 k s (n : Int) (i : Int) (pos s i).1 (pos s i).2 = some (pos s n)
  | 0, i, k, h, hk => by
    obtain ⟨k, rfl⟩ : ∃ q, k = q + 1 := ⟨k - 1, by omega⟩
    obtain rfl : i = n := by omega
    rw [wispref09_At.l0, if_neg (by omega)]
  | d + 1, i, k, h, hk => by
    obtain ⟨k, rfl⟩ : ∃ q, k = q + 1 := ⟨k - 1, by omega⟩
    have hb := pos_bd s i
    have hb2 := pos2_bd s i
    have ih := At_loop s hz n hn d (i + 1) k (by omega) (by omega)
    have w3 : wrap64 ((i : Int) + 1) = ((i + 1 : Nat) : Int) := by rw [wrap64_u (by omega) (by omega)]; omega
    rw [wispref09_At.l0, if_pos (by omega), if_pos (by omega), if_pos (by omega), w3]
    clear w3
    by_cases c : bt s (i : Int) = 10
    · have e1 : pos s (i + 1) = ((pos s i).1 + 1, 1) := by simp only [pos]; rw [if_pos c]
      rw [e1] at ih
      rw [if_pos c, wrap64_u (by omega) (by omega)]
      exact ih
    · have e1 : pos s (i + 1) = ((pos s i).1, (pos s i).2 + 1) := by simp only [pos]; rw [if_neg c]
      rw [e1] at ih
      rw [if_neg c, wrap64_u (by omega) (by omega)]
      exact ih
theorem REnd_eq (s : ByteArray) (hz : s.size ≤ 2000000) (k : Nat) (hk : 5000000 < k) : wispref09_End.f k s = some (pos s s.size) := by
  unfold wispref09_End.f wispref09_At.f
  have := At_loop s hz s.size (Nat.le_refl _) s.size 0 k (by omega) (by omega)
  have e1 : pos s 0 = (1, 1) := rfl
  rw [e1] at this
  rw [show (0 : Int) = ((0 : Nat) : Int) from rfl]
  rw [this]; rfl
theorem Same_loop (l : List S30) (hl : l.length ≤ 4611686018427387900) : ∀ (d i k : Nat), i + d = l.length → d + 1 < k → wispref09_Same.l0 k l l (i : Int) = some true
  | 0, i, k, h, hk => by
    obtain ⟨k, rfl⟩ : ∃ q, k = q + 1 := ⟨k - 1, by omega⟩
    rw [wispref09_Same.l0, if_neg (by omega)]
  | d + 1, i, k, h, hk => by
    obtain ⟨k, rfl⟩ : ∃ q, k = q + 1 := ⟨k - 1, by omega⟩
    rw [wispref09_Same.l0, if_pos (by omega), if_pos (by omega), if_pos (by omega), if_neg (by simp), wrap64_u (by omega) (by omega), show (i : Int) + 1 = ((i + 1 : Nat) : Int) by omega]
    exact Same_loop l hl d (i + 1) k (by omega) (by omega)
theorem Same_eq (l : List S30) (hl : l.length ≤ 4611686018427387900) (k : Nat) (hk : l.length + 1 < k) : wispref09_Same.f k l l = some true := by
  unfold wispref09_Same.f
  rw [if_pos rfl]
  exact Same_loop l hl l.length 0 k (by omega) hk
theorem M_len (s : ByteArray) : ∀ (d i : Nat), (M s d i).1.length ≤ d
  | 0, i => by simp [M]
  | d + 1, i => by
    simp only [M]
    have h1 := M_len s d (i + 1)
    have h2 := fun j => M_len s d j
    by_cases c0 : s.size ≤ i
    · rw [if_pos c0]; simp
    · rw [if_neg c0]
      by_cases c1 : bl (bt s (i : Int)) = true
      · rw [if_pos c1]; omega
      · rw [if_neg c1]
        by_cases c2 : pt (bt s (i : Int)) = true
        · rw [if_pos c2]
          obtain ⟨wd, hwd⟩ : ∃ wd, wordOf s i = wd := ⟨_, rfl⟩
          rw [hwd]
          by_cases c3 : wd.toList = ([92] : List UInt8)
          · rw [if_pos c3]
            split
            · simp
            · exact Nat.le_trans (h2 _) (by omega)
          · rw [if_neg c3]
            by_cases c4 : wd.toList = ([40] : List UInt8)
            · rw [if_pos c4]
              split
              · simp
              · exact Nat.le_trans (h2 _) (by omega)
            · rw [if_neg c4]
              split
              · simp
              · split
                · simp only [List.length_cons]; exact Nat.succ_le_succ (h2 _)
                · split
                  · simp
                  · simp only [List.length_cons]; exact Nat.succ_le_succ (h2 _)
        · rw [if_neg c2]; simp
theorem scanA_len (s : ByteArray) : (scanA s).1.length ≤ 65536 := by
  unfold scanA
  split
  · simp
  · have := M_len s s.size 0
    unfold fin1
    split
    · simp; omega
    · simp
end Go.Proofs.Ytembdahclmffjaa.Pure
