/- What the document's Scan answers: as token.Scan; ends of texts. -/
import Derived.Test.YtembdahclmffjaaTc
import Derived.Test.YtembdahclmffjaaPx8
namespace Go.Proofs.Ytembdahclmffjaa.Pure
set_option linter.unusedSimpArgs false
set_option linter.unusedVariables false
open Go.RowKit Go.Proofs.Ytembdahclmffjaa.P Go.Proofs.YtembdahclmffjaaW.PrintWords Go.Proofs.YtembdahclmffjaaW.PrintLast Go.Proofs.YtembdahclmffjaaW.PrintMore
/-- where the line begins -/
def bg (s : ByteArray) (m : Nat) : Int := (m : Int) + 1 - (pos s m).2
theorem pos2_bd (s : ByteArray) (n : Nat) : 1 ≤ (pos s n).2 ∧ (pos s n).2 ≤ n + 1 := by
  obtain ⟨_, _, _, _, h4, h5⟩ := pos_lines s n
  exact ⟨h4, h5⟩
theorem rl1_eq (s : ByteArray) (hz : s.size ≤ 2000000) (acc : List S30) (i : Nat) (hi : i ≤ s.size) : ∀ (d m k : Nat), m + d = i → d + 1 < k →
    ∃ k', k = k' + d + 1 ∧ wispref09_Scan.l1 k s acc (pos s m).1 (bg s m) (i : Int) (m : Int) = wispref09_Scan.l0 k' s acc (pos s i).1 (bg s i) (i : Int)
  | 0, m, k, h, hk => by
    obtain ⟨k, rfl⟩ : ∃ q, k = q + 1 := ⟨k - 1, by omega⟩
    obtain rfl : m = i := by omega
    exact ⟨k, by omega, by rw [wispref09_Scan.l1, if_neg (by omega)]⟩
  | d + 1, m, k, h, hk => by
    obtain ⟨k, rfl⟩ : ∃ q, k = q + 1 := ⟨k - 1, by omega⟩
    have hb := pos_bd s m
    have hb2 := pos2_bd s m
    obtain ⟨k', h1, h2⟩ := rl1_eq s hz acc i hi d (m + 1) k (by omega) (by omega)
    refine ⟨k', by omega, ?_⟩
    rw [← h2, wispref09_Scan.l1, if_pos (by omega), if_pos (by omega), if_pos (by omega)]
    have w3 : wrap64 ((m : Int) + 1) = ((m + 1 : Nat) : Int) := by rw [wrap64_u (by omega) (by omega)]; omega
    by_cases c : bt s (m : Int) = 10
    · have e1 : pos s (m + 1) = ((pos s m).1 + 1, 1) := by simp only [pos]; rw [if_pos c]
      have e2 : bg s (m + 1) = ((m + 1 : Nat) : Int) := by unfold bg; rw [e1]; omega
      rw [if_pos c, w3, e2, e1, wrap64_u (x := (pos s m).1 + 1) (by omega) (by omega)]
    · have e1 : pos s (m + 1) = ((pos s m).1, (pos s m).2 + 1) := by simp only [pos]; rw [if_neg c]
      have e2 : bg s (m + 1) = bg s m := by unfold bg; rw [e1]; omega
      rw [if_neg c, w3, e2, e1]
theorem rj1_eq (s : ByteArray) (hz : s.size ≤ 2000000) (acc : List S30) (i m : Nat) (hi : i ≤ s.size) (hm : m ≤ i) (k : Nat) (hk : i - m + 2 < k) :
    ∃ k', k = k' + (i - m) + 2 ∧ wispref09_Scan.j1 k s acc (pos s m).1 (bg s m) (i : Int) (m : Int) = wispref09_Scan.l0 k' s acc (pos s i).1 (bg s i) (i : Int) := by
  obtain ⟨k, rfl⟩ : ∃ q, k = q + 1 := ⟨k - 1, by omega⟩
  obtain ⟨k', h1, h2⟩ := rl1_eq s hz acc i hi (i - m) m k (by omega) (by omega)
  exact ⟨k', by omega, by rw [wispref09_Scan.j1]; exact h2⟩
theorem rtoken_eq (w : ByteArray) (hz : w.size ≤ 2000000) (l c : Int) (k : Nat) (hk : 3 * w.size + 30 < k) :
    wispref09_token.f k w l c = some (if w.size > 31 then (0, (⟨#[]⟩ : ByteArray), 0, 0, 0, 93) else if (numeral (bytesOf w)).2 = 0 then (2, w, (numeral (bytesOf w)).1, l, c, 0) else if (numeral (bytesOf w)).2 = 21 then (0, (⟨#[]⟩ : ByteArray), 0, 0, 0, 21) else (1, w, 0, l, c, 0)) := by
  obtain ⟨k, rfl⟩ : ∃ q, k = q + 1 := ⟨k - 1, by omega⟩
  unfold wispref09_token.f
  by_cases h : w.size > 31
  · rw [if_pos (show (w.size : Int) > 31 by omega), if_pos h]
  · rw [if_neg (show ¬ (w.size : Int) > 31 by omega), if_neg h, RNum_eq w hz (k + 1) hk, Option.bind_some]
    unfold N9
    by_cases h0 : (numeral (bytesOf w)).2 = 0
    · simp only [if_pos h0]
      simp [wispref09_token.j0]
    · by_cases h1 : (numeral (bytesOf w)).2 = 21
      · simp only [if_neg h0, if_pos h1]
        simp [wispref09_token.j0]
      · simp only [if_neg h0, if_neg h1]
        simp [wispref09_token.j0]
set_option maxHeartbeats 2000000 in
theorem rl0_eq (s : ByteArray) (hz : s.size ≤ 65536) : ∀ (d i : Nat) (acc : List S30) (k : Nat), s.size ≤ i + d → i ≤ s.size → acc.length ≤ i → 5 * (s.size - i) + 4200000 < k →
    wispref09_Scan.l0 k s acc (pos s i).1 (bg s i) (i : Int) = some (fin1 s acc (M s d i))
  | 0, i, acc, k, hd, hi, ho, hk => by
    obtain ⟨k, rfl⟩ : ∃ q, k = q + 1 := ⟨k - 1, by omega⟩
    rw [wispref09_Scan.l0, if_neg (by omega)]
    simp [M, fin1]
  | d + 1, i, acc, k, hd, hi, ho, hk => by
    obtain ⟨k, rfl⟩ : ∃ q, k = q + 1 := ⟨k - 1, by omega⟩
    rw [wispref09_Scan.l0]
    simp only [M]
    by_cases c0 : s.size ≤ i
    · rw [if_neg (by omega), if_pos c0]
      simp [fin1]
    · have pb := pos_bd s i
      have pb2 := pos2_bd s i
      have col : wrap64 ((wrap64 ((i : Int) - bg s i)) + 1) = (pos s i).2 := by
        have e : (i : Int) - bg s i = (pos s i).2 - 1 := by unfold bg; omega
        rw [e, wrap64_u (x := (pos s i).2 - 1) (by omega) (by omega), wrap64_u (by omega) (by omega)]; omega
      rw [if_pos (by omega), if_pos (by omega), if_neg c0, rblank_eq, Option.bind_some, col]
      clear col
      by_cases c1 : bl (bt s (i : Int)) = true
      · rw [if_pos c1, if_pos c1, wrap64_u (by omega) (by omega), show (i : Int) + 1 = ((i + 1 : Nat) : Int) by omega]
        obtain ⟨k', h1, h2⟩ := rj1_eq s (by omega) acc (i + 1) i (by omega) (by omega) k (by omega)
        rw [h2]
        exact rl0_eq s hz d (i + 1) acc k' (by omega) (by omega) (by omega) (by omega)
      · rw [if_neg c1, if_neg c1, rletter_eq, Option.bind_some]
        by_cases c2 : pt (bt s (i : Int)) = true
        · rw [if_pos c2, if_pos c2]
          unfold wispref09_word.f
          rw [rword_eq s (by omega) (s.size - i) i k (by omega) (by omega), Option.bind_some]
          have g1 : i < wend s (s.size - i) i := by
            obtain ⟨q, hq⟩ : ∃ q, s.size - i = q + 1 := ⟨s.size - i - 1, by omega⟩
            rw [hq]; exact wend_gt c2
          have g2 := (wend_le s (s.size - i) i).2
          unfold wordOf
          obtain ⟨e, he⟩ : ∃ e, wend s (s.size - i) i = e := ⟨_, rfl⟩
          rw [he] at g1 g2 ⊢
          rw [if_pos (by omega), if_pos (by omega), Int.toNat_natCast, Int.toNat_natCast]
          obtain ⟨wd, hwd⟩ : ∃ wd, s.extract i e = wd := ⟨_, rfl⟩
          have hws : wd.size ≤ s.size := by rw [← hwd, ByteArray.size_extract]; omega
          rw [hwd]
          by_cases c3 : wd.toList = ([92] : List UInt8)
          · have hbe : wispref09_behind.f k s (e : Int) 10 = _ := behind_eq s (by omega) 10 e k (by omega) (by omega)
            rw [if_pos c3, if_pos c3, hbe, Option.bind_some]
            clear hbe
            rcases firstIdx_bd (s.extract e s.size) 10 with h | ⟨j, h, hj⟩
            · rw [h, if_pos (show (-1 : Int) < 0 by decide), if_pos (show (-1 : Int) < 0 by decide)]
              obtain ⟨k', h1, h2⟩ := rj1_eq s (by omega) acc s.size i (by omega) (by omega) k (by omega)
              rw [h2]
              obtain ⟨k', rfl⟩ : ∃ q, k' = q + 1 := ⟨k' - 1, by omega⟩
              rw [wispref09_Scan.l0, if_neg (by omega)]
              simp [fin1]
            · have hj2 : j < s.size - e := by rw [ByteArray.size_extract] at hj; omega
              rw [h, if_neg (show ¬ (j : Int) < 0 by omega), if_neg (show ¬ (e : Int) + (j : Int) + 1 < 0 by omega), if_neg (show ¬ (j : Int) < 0 by omega), Int.toNat_natCast, show (e : Int) + (j : Int) + 1 = ((e + j + 1 : Nat) : Int) by omega]
              obtain ⟨k', h1, h2⟩ := rj1_eq s (by omega) acc (e + j + 1) i (by omega) (by omega) k (by omega)
              rw [h2]
              exact rl0_eq s hz d (e + j + 1) acc k' (by omega) (by omega) (by omega) (by omega)
          · rw [if_neg c3, if_neg c3]
            by_cases c4 : wd.toList = ([40] : List UInt8)
            · have hbe : wispref09_behind.f k s (e : Int) 41 = _ := behind_eq s (by omega) 41 e k (by omega) (by omega)
              rw [if_pos c4, if_pos c4, hbe, Option.bind_some]
              clear hbe
              rcases firstIdx_bd (s.extract e s.size) 41 with h | ⟨j, h, hj⟩
              · rw [h, if_pos (show (-1 : Int) < 0 by decide), if_pos (show (-1 : Int) < 0 by decide)]
                simp [fin1]
              · have hj2 : j < s.size - e := by rw [ByteArray.size_extract] at hj; omega
                rw [h, if_neg (show ¬ (j : Int) < 0 by omega), if_neg (show ¬ (e : Int) + (j : Int) + 1 < 0 by omega), if_neg (show ¬ (j : Int) < 0 by omega), Int.toNat_natCast, show (e : Int) + (j : Int) + 1 = ((e + j + 1 : Nat) : Int) by omega]
                obtain ⟨k', h1, h2⟩ := rj1_eq s (by omega) acc (e + j + 1) i (by omega) (by omega) k (by omega)
                rw [h2]
                exact rl0_eq s hz d (e + j + 1) acc k' (by omega) (by omega) (by omega) (by omega)
            · rw [if_neg c4, if_neg c4, rtoken_eq wd (by omega) _ _ k (by omega), Option.bind_some]
              by_cases c5 : wd.size > 31
              · simp only [if_pos c5]
                simp [fin1]
              · simp only [if_neg c5]
                have nx : ∀ (t : S30), wispref09_Scan.j1 k s (acc ++ [t]) (pos s i).1 (bg s i) (e : Int) (i : Int) = some (fin1 s (acc ++ [t]) (M s d e)) := fun t => by
                  obtain ⟨k', h1, h2⟩ := rj1_eq s (by omega) (acc ++ [t]) e i (by omega) (by omega) k (by omega)
                  rw [h2]
                  exact rl0_eq s hz d e (acc ++ [t]) k' (by omega) (by omega) (by simp; omega) (by omega)
                by_cases c6 : (numeral (bytesOf wd)).2 = 0
                · simp only [if_pos c6]
                  rw [if_pos trivial, if_pos (by omega), nx, fin1_cons]
                · by_cases c7 : (numeral (bytesOf wd)).2 = 21
                  · simp only [if_neg c6, if_pos c7]
                    simp [fin1]
                  · simp only [if_neg c6, if_neg c7]
                    rw [if_pos trivial, if_pos (by omega), nx, fin1_cons]
        · rw [if_neg c2, if_neg c2]
          simp [fin1]
theorem RScan_eq (s : ByteArray) (k : Nat) (hk : 5000000 < k) : wispref09_Scan.f k s = some (scanA s) := by
  unfold wispref09_Scan.f scanA
  by_cases c : s.size > 65536
  · rw [if_pos (by omega), if_pos c]
  · rw [if_neg (by omega), if_neg c]
    have := rl0_eq s (by omega) s.size 0 [] k (by omega) (by omega) (by simp) (by omega)
    have e1 : pos s 0 = (1, 1) := rfl
    have e2 : bg s 0 = 0 := by simp [bg, e1]
    rw [e2, e1] at this
    exact this
end Go.Proofs.Ytembdahclmffjaa.Pure
