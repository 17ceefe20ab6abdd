/- The statement TokenLong over numbers and lists alone. -/
import Derived.Test.YtembdahclmffjaaTe
import Derived.Test.YtembdahclmffjaaPx16
namespace Go.Proofs.Ytembdahclmffjaa.Pure
set_option linter.unusedSimpArgs false
set_option linter.unusedVariables false
open Go.RowKit Go.Proofs.Ytembdahclmffjaa.P Go.Proofs.YtembdahclmffjaaW.PrintWords Go.Proofs.YtembdahclmffjaaW.PrintLast Go.Proofs.YtembdahclmffjaaW.PrintMore
theorem ssize (L : List Int) : (strOfNums L).size = L.length := by simp [strOfNums, ByteArray.size]
set_option maxRecDepth 100000 in
theorem fixed_300 : wisplaw09_fixed.f 300 = some true := by decide +kernel
theorem fixed_up : ∀ d, wisplaw09_fixed.f (300 + d) = some true
  | 0 => fixed_300
  | d + 1 => wisplaw09_fixed.mono (300 + d) true (fixed_up d)
theorem fixed_ok (k : Nat) (hk : 300 ≤ k) : wisplaw09_fixed.f k = some true := by
  have := fixed_up (k - 300)
  rwa [show 300 + (k - 300) = k by omega] at this
theorem long_end (L : List Int) (h0 : 65536 < L.length) (h1 : L.length ≤ 70000) (k : Nat) (hk : 5000000 < k) :
    ((token_Scan.f k (strOfNums L)).bind fun bt401 => (if bt401.2.2.2 = 90 then (if (bt401.1.length : Int) = 0 then (if (bt401.2.1 == 1 && (bt401.2.2.1 == 1)) = true then ((token_End.f k (strOfNums L)).bind fun bt407 => ((wispref09_End.f k (strOfNums L)).bind fun bt409 => (some (bt407.1 == bt409.1 && (bt407.2 == bt409.2))))) else none) else none) else none)) = some true := by
  have hs := ssize L
  rw [Scan_eq _ k hk, Option.bind_some]
  have e : scanA (strOfNums L) = ([], 1, 1, 90) := by unfold scanA; rw [if_pos (by omega)]
  rw [e, End_eq _ (by omega) k hk, REnd_eq _ (by omega) k hk]
  simp
theorem long_l1 (x2 : Int) (t : Nat) (ht : t ≤ 3) (hw : wrap64 (1 + (Int.tmod x2 3)) ≤ 3) (ht1 : 1 ≤ t) (ht2 : wrap64 (1 + (Int.tmod x2 3)) ≤ (t : Int)) (ht3 : t = 1 ∨ (t : Int) = wrap64 (1 + (Int.tmod x2 3))) : ∀ (d i k : Nat) (L : List Int), i + d = t → L.length = 65536 + i → 5000010 + d < k → wisplaw09_TokenLong.l1 k x2 L (i : Int) = some true
  | 0, i, k, L, h, hL, hk => by
    obtain ⟨k, rfl⟩ : ∃ q, k = q + 1 := ⟨k - 1, by omega⟩
    rw [wisplaw09_TokenLong.l1, if_neg (by omega), if_neg (by omega)]
    exact long_end L (by omega) (by omega) k (by omega)
  | d + 1, i, k, L, h, hL, hk => by
    obtain ⟨k, rfl⟩ : ∃ q, k = q + 1 := ⟨k - 1, by omega⟩
    have ih := long_l1 x2 t ht hw ht1 ht2 ht3 d (i + 1) k (L ++ [32]) (by omega) (by simp; omega) (by omega)
    have w3 : wrap64 ((i : Int) + 1) = ((i + 1 : Nat) : Int) := by rw [wrap64_u (by omega) (by omega)]; omega
    rw [wisplaw09_TokenLong.l1]
    by_cases c : (i : Int) < wrap64 (1 + (Int.tmod x2 3))
    · rw [if_pos c, if_pos (by omega), w3]; exact ih
    · rw [if_neg c, if_pos (by omega), if_pos (by omega), w3]; exact ih
theorem long_j2 (x2 : Int) (L : List Int) (hL : L.length = 65536) (k : Nat) (hk : 5000100 < k) : wisplaw09_TokenLong.j2 k x2 L false = some true := by
  obtain ⟨k, rfl⟩ : ∃ q, k = q + 1 := ⟨k - 1, by omega⟩
  have h1 := Int.tmod_lt_of_pos x2 (show (0 : Int) < 3 by decide)
  have h2 := Int.lt_tmod_of_pos x2 (show (0 : Int) < 3 by decide)
  have hw : wrap64 (1 + (Int.tmod x2 3)) = 1 + Int.tmod x2 3 := wrap64_u (by omega) (by omega)
  obtain ⟨z, hz⟩ : ∃ z, Int.tmod x2 3 = z := ⟨_, rfl⟩
  rw [wisplaw09_TokenLong.j2, if_neg (by simp), show (0 : Int) = ((0 : Nat) : Int) from rfl]
  by_cases c : z ≤ 0
  · exact long_l1 x2 1 (by omega) (by rw [hw, hz]; omega) (by omega) (by rw [hw, hz]; omega) (.inl rfl) 1 0 k L (by omega) (by omega) (by omega)
  · exact long_l1 x2 (1 + z).toNat (by omega) (by rw [hw, hz]; omega) (by omega) (by rw [hw, hz]; omega) (.inr (by rw [hw, hz]; omega)) (1 + z).toNat 0 k L (by omega) (by omega) (by omega)
theorem long_l0 (x1 x2 : Int) (h0 : 0 ≤ Int.tmod x1 4) (h1 : Int.tmod x1 4 < 4) (n : Nat) (hn : n ≤ 65536) : ∀ (d i k : Nat) (L : List Int), i + d = n → L.length + d = 65536 → 5000200 + d < k → wisplaw09_TokenLong.l0 k x1 x2 (n : Int) L (i : Int) = some true
  | 0, i, k, L, h, hL, hk => by
    obtain ⟨k, rfl⟩ : ∃ q, k = q + 1 := ⟨k - 1, by omega⟩
    have hs := scanA_len (strOfNums L)
    rw [wisplaw09_TokenLong.l0, if_neg (by omega), Scan_eq _ k (by omega), Option.bind_some, RScan_eq _ k (by omega), Option.bind_some, fixed_ok k (by omega), Option.bind_some, if_pos rfl, Same_eq _ (by omega) k (by omega), Option.bind_some, if_pos rfl, if_neg (by simp)]
    rw [show ((scanA (strOfNums L)).2.2.2 != (scanA (strOfNums L)).2.2.2) = false by simp]
    exact long_j2 x2 L (by omega) k (by omega)
  | d + 1, i, k, L, h, hL, hk => by
    obtain ⟨k, rfl⟩ : ∃ q, k = q + 1 := ⟨k - 1, by omega⟩
    have w3 : wrap64 ((i : Int) + 1) = ((i + 1 : Nat) : Int) := by rw [wrap64_u (by omega) (by omega)]; omega
    rw [wisplaw09_TokenLong.l0, if_pos (by omega), if_pos h0, if_pos h1, if_pos (by omega), w3]
    exact long_l0 x1 x2 h0 h1 n hn d (i + 1) k _ (by omega) (by simp; omega) (by omega)
theorem long_j0 (s : ByteArray) (hs : s.size ≤ 100) (x1 x2 : Int) (h0 : 0 ≤ Int.tmod x1 4) (h1 : Int.tmod x1 4 < 4) (k : Nat) (hk : 5100000 < k) : wisplaw09_TokenLong.j0 k s x1 x2 = some true := by
  obtain ⟨k, rfl⟩ : ∃ q, k = q + 1 := ⟨k - 1, by omega⟩
  have hl := bytesOf_length s
  have hw : wrap64 (65536 - (s.size : Int)) = ((65536 - s.size : Nat) : Int) := by rw [wrap64_u (by omega) (by omega)]; omega
  rw [wisplaw09_TokenLong.j0, if_pos (by simp; omega), hw, List.nil_append, show (0 : Int) = ((0 : Nat) : Int) from rfl]
  exact long_l0 x1 x2 h0 h1 (65536 - s.size) (by omega) (65536 - s.size) 0 k (bytesOf s) (by omega) (by omega) (by omega)
theorem TokenLong : wisplaw09_TokenLong.Pure := by
  intro a0 a1 a2 w0 w1 w2
  have hb : 0 ≤ a1 ∧ a1 ≤ 255 := by
    have h3 : (decide ((0 : Int) ≤ a1) && decide (a1 ≤ 255)) = true := w1
    simpa using h3
  have h0 : 0 ≤ Int.tmod a1 4 := by rw [Int.tmod_eq_emod_of_nonneg hb.1]; omega
  have h1 := Int.tmod_lt_of_pos a1 (show (0 : Int) < 4 by decide)
  refine ⟨6000000, ?_⟩
  unfold wisplaw09_TokenLong.f
  by_cases c : (a0.size : Int) > 100
  · rw [if_pos c, if_pos (by decide), if_pos (by omega)]
    exact long_j0 _ (by rw [ByteArray.size_extract]; omega) a1 a2 h0 h1 _ (by omega)
  · rw [if_neg c]
    exact long_j0 _ (by omega) a1 a2 h0 h1 _ (by omega)
end Go.Proofs.Ytembdahclmffjaa.Pure
