/- The statement TextCells over numbers and lists alone: a cell's decimal and hexadecimal numerals are the document's and lead back, with zeros in front and below zero. -/
import Derived.Test.YtjphhnhloeanlaaPx9
import Derived.Test.YtjphhnhloeanlaaMath1
namespace Go.Proofs.Ytjphhnhloeanlaa.Pure
set_option linter.unusedSimpArgs false
set_option linter.unusedVariables false
open Go.RowKit Go.Proofs.Ytjphhnhloeanlaa.P Go.Proofs.YtjphhnhloeanlaaW.PrintWords Go.Proofs.YtjphhnhloeanlaaW.PrintLast Go.Proofs.YtjphhnhloeanlaaW.PrintMore

theorem cells_j4 (k : Nat) (hk : 300 < k) (x y : Nat) (hy : (x = 0 ∧ y = 0) ∨ (0 < x ∧ y + x = 65536)) (hx : x ≤ 65535) (n : Nat) (hn : n ≤ 100) (s : ByteArray) (hs : bytesOf s = List.replicate n 48) (c : Bool) (hc : c = decide (x ≥ 32768 ∨ x = 0)) :
    wisplaw02_TextCells.j4 k x s (strOfNums (digL 10 y)) true c = some true := by
  obtain ⟨k, rfl⟩ : ∃ m, k = m + 1 := ⟨k - 1, by omega⟩
  have hm := digL_bytes (base := 10) (by omega) (by omega) y
  have hl := digL_len (base := 10) (by omega) y 16 (by omega)
  have z1 : s.size = n := by rw [← bytesOf_length, hs, List.length_replicate]
  have z2 : (strOfNums (digL 10 y)).size ≤ 17 := by rw [← bytesOf_length, hm]; omega
  have z3 : ((⟨#[45]⟩ : ByteArray) ++ s).size = n + 1 := by rw [ByteArray.size_append, z1]; show 1 + n = n + 1; omega
  have hb : bytesOf (((⟨#[45]⟩ : ByteArray) ++ s) ++ strOfNums (digL 10 y)) = 45 :: (List.replicate n 48 ++ digL 10 y) := by
    rw [bytes_append, bytes_append, hs, hm]; rfl
  have z4 : (((⟨#[45]⟩ : ByteArray) ++ s) ++ strOfNums (digL 10 y)).size ≤ 120 := by rw [ByteArray.size_append, z3]; omega
  have hnum : numeral (45 :: (List.replicate n 48 ++ digL 10 y)) = if x ≥ 32768 ∨ x = 0 then ((x : Int), 0) else (0, 21) := by
    rw [numeral_neg, num_dec]
    unfold fin
    rw [if_neg (show ¬ (65536 : Int) < (y : Int) by omega)]
    by_cases h : x ≥ 32768 ∨ x = 0
    · rw [if_pos h, if_neg (by omega), if_neg (by omega)]; congr 1; omega
    · rw [if_neg h, if_pos (by omega)]
  simp only [wisplaw02_TextCells.j4, if_true]
  by_cases h : x ≥ 32768 ∨ x = 0
  · rw [if_pos h] at hnum
    rw [hc, if_pos (by simpa using h), if_pos (by omega), if_pos (by omega), told_true _ (by omega) x 0 k (by omega) (by rw [hb, hnum])]; rfl
  · rw [if_neg h] at hnum
    rw [hc, if_neg (by simpa using h), if_pos (by omega), if_pos (by omega), told_true _ (by omega) 0 21 k (by omega) (by rw [hb, hnum])]; rfl
theorem cells_j2 (k : Nat) (hk : 200400 < k) (x : Nat) (hx : x ≤ 65535) (n : Nat) (hn : n ≤ 100) (s : ByteArray) (hs : bytesOf s = List.replicate n 48) :
    wisplaw02_TextCells.j2 k x (strOfNums (digL 10 x)) (strOfNums (36 :: hexL x)) s = some true := by
  obtain ⟨k, rfl⟩ : ∃ m, k = m + 1 := ⟨k - 1, by omega⟩
  have hd := digL_bytes (base := 10) (by omega) (by omega) x
  have hh := hexL_bytes x hx
  have hl := digL_len (base := 10) (by omega) x 16 (by omega)
  have z1 : s.size = n := by rw [← bytesOf_length, hs, List.length_replicate]
  have z2 : (strOfNums (digL 10 x)).size ≤ 17 := by rw [← bytesOf_length, hd]; omega
  have z3 : (strOfNums (36 :: hexL x)).size = 5 := by rw [← bytesOf_length, hh]; rfl
  have z4 : ((⟨#[36]⟩ : ByteArray) ++ s).size = n + 1 := by rw [ByteArray.size_append, z1]; show 1 + n = n + 1; omega
  have z5 : ((strOfNums (36 :: hexL x)).extract 1 (strOfNums (36 :: hexL x)).size).size = 4 := by rw [ByteArray.size_extract]; omega
  have b1 : bytesOf (s ++ strOfNums (digL 10 x)) = List.replicate n 48 ++ digL 10 x := by rw [bytes_append, hs, hd]
  have b2 : bytesOf (((⟨#[36]⟩ : ByteArray) ++ s) ++ ((strOfNums (36 :: hexL x)).extract 1 (strOfNums (36 :: hexL x)).size)) = 36 :: (List.replicate n 48 ++ hexL x) := by
    rw [bytes_append, bytes_append, hs, bytes_extract, hh]; rfl
  have n1 : numeral (digL 10 x) = ((x : Int), 0) := by
    rw [numeral_dec _ (digL_ne 10 x) (fun c hc => (digL_digits (by omega) (by omega) x c hc).2.1)]
    rw [num_dec0, if_neg (by omega), fin_pos (by omega) (by omega)]
  have n2 : numeral (List.replicate n 48 ++ digL 10 x) = ((x : Int), 0) := by
    rw [numeral_dec _ (by intro e; exact digL_ne 10 x (List.append_eq_nil_iff.1 e).2) (fun c hc => by
      rcases List.mem_append.1 hc with hc | hc
      · rw [List.eq_of_mem_replicate hc]; omega
      · exact (digL_digits (by omega) (by omega) x c hc).2.1), num_dec, if_neg (by omega), fin_pos (by omega) (by omega)]
  have n3 : ∀ n, numeral (36 :: (List.replicate n 48 ++ hexL x)) = ((x : Int), 0) := by
    intro n
    rw [numeral_hex, num_ex (by omega) 1 _ (by unfold hexL; simp) (fun c hc => by
      rcases List.mem_append.1 hc with hc | hc
      · rw [List.eq_of_mem_replicate hc]; decide
      · exact (hexL_digits x hx c hc).1), ex_zeros, hexL_ex x hx, if_neg (by omega), fin_pos (by omega) (by omega)]
  have n4 : numeral (36 :: hexL x) = ((x : Int), 0) := n3 0
  have hw : IntKind.u16.wrap (-(x : Int)) = (((65536 - x) % 65536 : Nat) : Int) := by rw [u16_wrap]; omega
  simp only [wisplaw02_TextCells.j2]
  rw [hw, Decimal_eq _ (by omega) k (by omega)]
  simp only [Option.bind_some]
  rw [told_true _ (by omega) x 0 k (by omega) (by rw [hd, n1])]
  simp only [Option.bind_some, if_true]
  rw [told_true _ (by omega) x 0 k (by omega) (by rw [hh, n4])]
  simp only [Option.bind_some, if_true]
  rw [if_pos (by omega), told_true _ (by rw [ByteArray.size_append]; omega) x 0 k (by rw [ByteArray.size_append]; omega) (by rw [b1, n2])]
  simp only [Option.bind_some, if_true]
  rw [if_pos (by omega), if_pos (by omega), if_pos (by omega), told_true _ (by rw [ByteArray.size_append]; omega) x 0 k (by rw [ByteArray.size_append]; omega) (by rw [b2, n3])]
  simp only [Option.bind_some]
  obtain ⟨k, rfl⟩ : ∃ m, k = m + 1 := ⟨k - 1, by omega⟩
  simp only [wisplaw02_TextCells.j3]
  by_cases h : x ≥ 32768
  · rw [if_pos (by omega)]
    exact cells_j4 k (by omega) x _ (by omega) hx n hn s hs true (by simp; omega)
  · rw [if_neg (by omega)]
    refine cells_j4 k (by omega) x _ (by omega) hx n hn s hs _ ?_
    by_cases c : x = 0
    · subst c; rfl
    · have : ¬ (x : Int) = 0 := by omega
      have e1 : ((x : Int) == 0) = false := by simpa using this
      rw [e1]; simp; omega
theorem cells_l0 (x : Nat) (hx : x ≤ 65535) (z : Int) (d : Nat) : ∀ (k n : Nat) (s : ByteArray), n + d = 100 → bytesOf s = List.replicate n 48 → 200500 + d < k → wisplaw02_TextCells.l0 k x z (strOfNums (digL 10 x)) (strOfNums (36 :: hexL x)) s n = some true := by
  induction d with
  | zero =>
    intro k n s hn hs hk
    obtain ⟨k, rfl⟩ : ∃ m, k = m + 1 := ⟨k - 1, by omega⟩
    simp only [wisplaw02_TextCells.l0]
    by_cases c : (n : Int) < z
    · rw [if_pos c, if_neg (by omega)]
      exact cells_j2 k (by omega) x hx n (by omega) s hs
    · rw [if_neg c]
      exact cells_j2 k (by omega) x hx n (by omega) s hs
  | succ d ih =>
    intro k n s hn hs hk
    obtain ⟨k, rfl⟩ : ∃ m, k = m + 1 := ⟨k - 1, by omega⟩
    have z1 : s.size = n := by rw [← bytesOf_length, hs, List.length_replicate]
    simp only [wisplaw02_TextCells.l0]
    by_cases c : (n : Int) < z
    · rw [if_pos c, if_pos (by omega), if_pos (by omega), wrap64_u (x := (n : Int) + 1) (by omega) (by omega)]
      exact ih k (n + 1) _ (by omega) (by rw [bytes_append, hs, List.replicate_succ']; rfl) (by omega)
    · rw [if_neg c]
      exact cells_j2 k (by omega) x hx n (by omega) s hs
theorem TextCells : wisplaw02_TextCells.Pure := by
  intro x0 z hx hz
  obtain ⟨h0, h1⟩ := bounds_u16 hx
  obtain ⟨x, rfl⟩ := Int.eq_ofNat_of_zero_le h0
  have hx' : x ≤ 65535 := by omega
  refine ⟨200700 + 60, ?_⟩
  unfold wisplaw02_TextCells.f
  obtain ⟨t1, r1, q1⟩ := RDecimal_eq x hx' (200700 + 60) (by omega)
  obtain ⟨t2, r2, q2⟩ := RHex_eq x hx' (200700 + 55)
  rw [fixed_text 200700, Decimal_eq x hx' _ (by omega), Hex_eq x hx', r1]
  simp only [Option.bind_some, if_true]
  rw [if_pos ((toList_same _ _).2 (by rw [digL_bytes (by omega) (by omega), q1])), r2]
  simp only [Option.bind_some]
  rw [if_pos ((toList_same _ _).2 (by rw [hexL_bytes x hx', q2]))]
  have z3 : (strOfNums (36 :: hexL x)).size = 5 := by rw [← bytesOf_length, hexL_bytes x hx']; rfl
  rw [z3]
  simp only [wisplaw02_TextCells.j0]
  rw [if_neg (by decide)]
  exact cells_l0 x hx' z 100 _ 0 _ (by omega) rfl (by omega)
end Go.Proofs.Ytjphhnhloeanlaa.Pure
