/- What cut texts want of Tc, Td, Te, without the document's walk (a claim has at most 1,500,000 bytes). -/
import Derived.Test.YtembdahclmffjaaTb
import Derived.Test.YtembdahclmffjaaPx8
namespace Go.Proofs.Ytembdahclmffjaa.Pure
set_option linter.unusedSimpArgs false
set_option linter.unusedVariables false
open Go.RowKit Go.Proofs.Ytembdahclmffjaa.P Go.Proofs.YtembdahclmffjaaW.PrintWords Go.Proofs.YtembdahclmffjaaW.PrintLast Go.Proofs.YtembdahclmffjaaW.PrintMore
theorem bt_tail (s : ByteArray) (e j : Nat) : bt (s.extract e s.size) (j : Int) = bt s ((e + j : Nat) : Int) := by
  rw [← rd_bytesOf, ← rd_bytesOf, bytes_extract]
  unfold rd
  rw [Int.toNat_natCast, Int.toNat_natCast, List.getD_eq_getElem?_getD, List.getD_eq_getElem?_getD, List.getElem?_drop]
theorem byte_at (t : ByteArray) (c : UInt8) (j : Nat) (hj : j < t.size) : (t[j]! == c) = true ↔ bt t (j : Int) = (c.toNat : Int) := by
  rw [bt_lt t j hj, beq_iff_eq, getElem!_pos t j hj]
  constructor
  · intro h; rw [h]
  · intro h; exact UInt8.toNat_inj.1 (by omega)
theorem firstIdx_none {t : ByteArray} {c : UInt8} (h : ∀ j : Nat, j < t.size → bt t (j : Int) ≠ (c.toNat : Int)) : firstIdx t c = -1 := by
  unfold firstIdx
  split
  · rename_i i hi
    have h1 := List.find?_some hi
    have h2 : i < t.size := by simpa using List.mem_of_find?_eq_some hi
    exact absurd ((byte_at t c i h2).1 h1) (h i h2)
  · rfl
theorem firstIdx_some {t : ByteArray} {c : UInt8} {j : Nat} (hj : j < t.size) (h : bt t (j : Int) = (c.toNat : Int)) (hb : ∀ q : Nat, q < j → bt t (q : Int) ≠ (c.toNat : Int)) : firstIdx t c = (j : Int) := by
  unfold firstIdx
  split
  · rename_i i hi
    have h1 := List.find?_some hi
    have h2 : i < t.size := by simpa using List.mem_of_find?_eq_some hi
    rw [List.find?_range_eq_some] at hi
    obtain ⟨_, _, h3⟩ := hi
    have h4 : ¬ i < j := fun g => hb i g ((byte_at t c i h2).1 h1)
    have h5 : ¬ j < i := fun g => by
      have := h3 j g
      rw [(byte_at t c j hj).2 h] at this
      exact absurd this (by simp)
    have : i = j := by omega
    rw [this]
  · rename_i hn
    rw [List.find?_range_eq_none] at hn
    have := hn j hj
    rw [(byte_at t c j hj).2 h] at this
    exact absurd this (by simp)
theorem pos2_bd (s : ByteArray) (n : Nat) : 1 ≤ (pos s n).2 ∧ (pos s n).2 ≤ n + 1 := by
  obtain ⟨_, _, _, _, h4, h5⟩ := pos_lines s n
  exact ⟨h4, h5⟩
theorem End_eq (s : ByteArray) (hz : s.size ≤ 2000000) (k : Nat) (hk : 5000000 < k) : token_End.f k s = some (pos s s.size) := by
  unfold token_End.f
  rw [place_eq s hz s.size (Nat.le_refl _) k (by omega)]; rfl
theorem M_len (s : ByteArray) : ∀ (d i : Nat), (M s d i).1.length ≤ d
  | 0, i => by simp [M]
  | d + 1, i => by
    simp only [M]
    have h1 := M_len s d (i + 1)
    have h2 := fun j => M_len s d j
    by_cases c0 : s.size ≤ i
    · rw [if_pos c0]; simp
    · rw [if_neg c0]
      by_cases c1 : bl (bt s (i : Int)) = true
      · rw [if_pos c1]; omega
      · rw [if_neg c1]
        by_cases c2 : pt (bt s (i : Int)) = true
        · rw [if_pos c2]
          obtain ⟨wd, hwd⟩ : ∃ wd, wordOf s i = wd := ⟨_, rfl⟩
          rw [hwd]
          by_cases c3 : wd.toList = ([92] : List UInt8)
          · rw [if_pos c3]
            split
            · simp
            · exact Nat.le_trans (h2 _) (by omega)
          · rw [if_neg c3]
            by_cases c4 : wd.toList = ([40] : List UInt8)
            · rw [if_pos c4]
              split
              · simp
              · exact Nat.le_trans (h2 _) (by omega)
            · rw [if_neg c4]
              split
              · simp
              · split
                · simp only [List.length_cons]; exact Nat.succ_le_succ (h2 _)
                · split
                  · simp
                  · simp only [List.length_cons]; exact Nat.succ_le_succ (h2 _)
        · rw [if_neg c2]; simp
theorem scanA_len (s : ByteArray) : (scanA s).1.length ≤ 65536 := by
  unfold scanA
  split
  · simp
  · have := M_len s s.size 0
    unfold fin1
    split
    · simp; omega
    · simp
end Go.Proofs.Ytembdahclmffjaa.Pure
