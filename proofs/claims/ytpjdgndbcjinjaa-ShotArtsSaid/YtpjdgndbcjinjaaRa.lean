/- The document's Art and Read over numbers alone: they answer what the program's do. -/
import Derived.Test.YtpjdgndbcjinjaaSc
import Derived.Test.YtpjdgndbcjinjaaPx11
namespace Go.Proofs.Ytpjdgndbcjinjaa.P
open Go.RowKit Go.Proofs.YtpjdgndbcjinjaaW.PrintWords Go.Proofs.YtpjdgndbcjinjaaW.PrintLast Go.Proofs.YtpjdgndbcjinjaaW.PrintMore Go.Proofs.Ytpjdgndbcjinjaa.Mine
set_option linter.unusedVariables false
set_option linter.unusedSimpArgs false
theorem div_px : ∀ n : Nat, n < 256 → (Int.tdiv (n : Int) 16) % 256 = (n : Int) / 16 ∧ 0 ≤ (n : Int) / 16 ∧ (n : Int) / 16 < 16 ∧ Int.tmod (n : Int) 16 = Go.bits .and .u8 (n : Int) 15 ∧ 0 ≤ Int.tmod (n : Int) 16 ∧ Int.tmod (n : Int) 16 < 16 := by decide +kernel
theorem RArt_step (s acc : List Int) (i k : Nat) (hb : allB s) (hs : s.length = 3072) (hi : i < 3072) (ha : acc.length ≤ 3 * i) :
    wispref20_Art.l0 (k + 1) s acc (i : Int) = wispref20_Art.l0 k s (acc ++ (px (rd s i) ++ nl i)) ((i + 1 : Nat) : Int) := by
  have hx := rdB hb (i : Int)
  obtain ⟨d1, d2, d3, d4, d5, d6⟩ := byteN (p := fun x => (Int.tdiv x 16) % 256 = x / 16 ∧ 0 ≤ x / 16 ∧ x / 16 < 16 ∧ Int.tmod x 16 = Go.bits .and .u8 x 15 ∧ 0 ≤ Int.tmod x 16 ∧ Int.tmod x 16 < 16) div_px hx
  rw [wispref20_Art.l0, if_pos (show (i : Int) < 3072 by omega), if_pos (Int.natCast_nonneg i), if_pos (show (i : Int) < (s.length : Int) by omega), mod_ok, wrapI (i := (i : Int) + 1) (by omega) (by omega)]
  unfold px nl
  by_cases h : rd s i = 0
  · rw [if_pos h, if_pos h, Option.bind_some, if_pos (by simp; omega), Option.bind_some]
    by_cases h63 : i % 64 = 63
    · rw [if_pos (by omega), if_pos (by simp; omega), if_pos h63, List.append_assoc]; rfl
    · rw [if_neg (by omega), if_neg h63, List.append_nil]; rfl
  · rw [if_neg h, if_neg h, d1, if_pos d2, if_pos d3, if_pos d5, if_pos d6, Option.bind_some, if_pos (by simp; omega), Option.bind_some, d4]
    by_cases h63 : i % 64 = 63
    · rw [if_pos (by omega), if_pos (by simp; omega), if_pos h63, List.append_assoc]; rfl
    · rw [if_neg (by omega), if_neg h63, List.append_nil]; rfl
theorem RArt_l0 (s : List Int) (hb : allB s) (hs : s.length = 3072) : ∀ (n q i : Nat) (acc : List Int), i + n = 3072 → acc.length ≤ 3 * i →
    wispref20_Art.l0 (n + 1 + q) s acc (i : Int) = some (strOfNums (acc ++ artL s n i), 0)
  | 0, q, i, acc, hi, ha => by
    rw [show 0 + 1 + q = q + 1 by omega, wispref20_Art.l0, if_neg (by omega)]; simp [artL]
  | n + 1, q, i, acc, hi, ha => by
    have h1 := px_len (rd s i)
    have h2 := nl_len i
    rw [show n + 1 + 1 + q = (n + 1 + q) + 1 by omega, RArt_step s acc i _ hb hs (by omega) ha, RArt_l0 s hb hs n q (i + 1) _ (by omega) (by simp; omega)]
    simp only [artL, List.append_assoc]
theorem RArt_f (s : List Int) (hb : allB s) (hs : s.length = 3072) (k : Nat) (hk : 3073 ≤ k) : wispref20_Art.f k s = some (artOf s, 0) := by
  have h := RArt_l0 s hb hs 3072 (k - 3073) 0 [] (by omega) (by simp)
  rw [wispref20_Art.f, hs, if_pos (show ((3072 : Nat) : Int) = 3072 from rfl)]
  rw [show 3072 + 1 + (k - 3073) = k by omega, List.nil_append] at h
  exact h
/-- Art of any bytes -/
def artA (s : List Int) : ByteArray × Int := if s.length = 3072 then (artOf s, 0) else (⟨#[]⟩, 2)
theorem Art_any (s : List Int) (hb : allB s) (k : Nat) (hk : 3073 ≤ k) : shot_Art.f k s = some (artA s) := by
  unfold artA
  by_cases hs : s.length = 3072
  · rw [if_pos hs]; exact Art_f s hb hs k hk
  · rw [if_neg hs, shot_Art.f, shot_screen.f, Option.bind_some, if_neg (by simp; omega)]
theorem RArt_any (s : List Int) (hb : allB s) (k : Nat) (hk : 3073 ≤ k) : wispref20_Art.f k s = some (artA s) := by
  unfold artA
  by_cases hs : s.length = 3072
  · rw [if_pos hs]; exact RArt_f s hb hs k hk
  · rw [if_neg hs, wispref20_Art.f, if_neg (by omega)]
/-! ### Read -/
/-- what a character stands for -/
def dg (c : Int) : Nat → Nat → Int
  | 0, _ => 0
  | n + 1, i => if bt DG (i : Int) = c then (i : Int) else dg c n (i + 1)
theorem dg_l0 (c : Int) : ∀ (n q i : Nat), i + n = 16 → wispref20_digit.l0 (n + 1 + q) c (i : Int) = some (dg c n i)
  | 0, q, i, h => by rw [show 0 + 1 + q = q + 1 by omega, wispref20_digit.l0, if_neg (by omega)]; rfl
  | n + 1, q, i, h => by
    rw [show n + 1 + 1 + q = (n + 1 + q) + 1 by omega, wispref20_digit.l0, if_pos (by omega), if_pos (Int.natCast_nonneg i), wrapI (i := (i : Int) + 1) (by omega) (by omega)]
    simp only [dg]
    by_cases e : bt DG (i : Int) = c
    · rw [if_pos e, if_pos e]
    · rw [if_neg e, if_neg e]
      exact dg_l0 c n q (i + 1) (by omega)
theorem dg_range (c : Int) : ∀ (n i : Nat), i + n = 16 → 0 ≤ dg c n i ∧ dg c n i < 16
  | 0, i, h => by simp [dg]
  | n + 1, i, h => by
    have := dg_range c n (i + 1) (by omega)
    simp only [dg]
    split <;> omega
def dig (c : Int) : Int := dg c 16 0
theorem dig_f (c : Int) (k : Nat) (hk : 17 ≤ k) : wispref20_digit.f k c = some (dig c) := by
  have h := dg_l0 c 16 (k - 17) 0 rfl
  rw [show 16 + 1 + (k - 17) = k by omega] at h
  exact h
def rr (a b : Int) : Int := (16 * dig a + dig b) % 256
def rrv (t : ByteArray) (p : Nat) : Int := rr (bt t p) (bt t ((p + 1 : Nat) : Int))
def rrF (t : ByteArray) : Nat → Nat → List Int
  | 0, _ => []
  | n + 1, i => rrv t (pos i) :: rrF t n (i + 1)
theorem rrF_len (t : ByteArray) : ∀ n i, (rrF t n i).length = n
  | 0, _ => rfl
  | n + 1, i => by simp [rrF, rrF_len t n (i + 1)]
theorem rrF_B (t : ByteArray) : ∀ n i, allB (rrF t n i)
  | 0, _ => fun x hx => by simp [rrF] at hx
  | n + 1, i => fun x hx => by
    simp only [rrF, List.mem_cons] at hx
    rcases hx with rfl | hx
    · unfold rrv rr
      exact ⟨by omega, by omega⟩
    · exact rrF_B t n (i + 1) x hx
def rrL (t : ByteArray) : List Int := rrF t 3072 0
theorem rrL_len (t : ByteArray) : (rrL t).length = 3072 := rrF_len t 3072 0
theorem rrL_B (t : ByteArray) : allB (rrL t) := rrF_B t 3072 0
theorem RRead_step (t : ByteArray) (ht : t.size = 6192) (acc : List Int) (i k : Nat) (hi : i < 3072) (ha : acc.length ≤ 5000) (hk : 17 ≤ k) :
    wispref20_Read.l0 (k + 1) t acc (i : Int) = wispref20_Read.l0 k t (acc ++ [rrv t (pos i)]) ((i + 1 : Nat) : Int) := by
  have hp : pos i = 129 * (i / 64) + 2 * (i % 64) := rfl
  have hd := div_ok i hi
  have hm := mod_ok i
  have hw : wrap64 ((wrap64 ((wrap64 (Int.tdiv (i : Int) 64)) * 129)) + (wrap64 ((Int.tmod (i : Int) 64) * 2))) = ((pos i : Nat) : Int) := by
    rw [hd, hm, wrapI (i := ((i / 64 : Nat) : Int) * 129) (by omega) (by omega), wrapI (i := ((i % 64 : Nat) : Int) * 2) (by omega) (by omega), wrapI (by omega) (by omega), hp]; omega
  have hw1 : wrap64 (((pos i : Nat) : Int) + 1) = ((pos i + 1 : Nat) : Int) := by rw [wrapI (by omega) (by omega)]; omega
  have r1 := dg_range (bt t (pos i)) 16 0 rfl
  have r2 := dg_range (bt t ((pos i + 1 : Nat) : Int)) 16 0 rfl
  rw [wispref20_Read.l0, if_pos (show (i : Int) < 3072 by omega), hw, hw1, if_pos (Int.natCast_nonneg _), if_pos (by omega), dig_f _ k hk, Option.bind_some, if_pos (Int.natCast_nonneg _), if_pos (by omega), dig_f _ k hk, Option.bind_some, if_pos (by omega), wrapI (i := (i : Int) + 1) (by omega) (by omega)]
  rw [wrapI (i := 16 * dig (bt t (pos i))) (by unfold dig; omega) (by unfold dig; omega), wrapI (by unfold dig; omega) (by unfold dig; omega)]
  rfl
theorem RRead_l0 (t : ByteArray) (ht : t.size = 6192) (q : Nat) (hq : 3073 ≤ q) : ∀ (n i : Nat) (acc : List Int), i + n = 3072 → acc.length ≤ i → acc ++ rrF t n i = rrL t →
    wispref20_Read.l0 (n + 1 + q) t acc (i : Int) = some (if (artOf (rrL t)).toList = t.toList then (rrL t, 0) else ([], 2))
  | 0, i, acc, hi, ha, he => by
    rw [show rrF t 0 i = [] from rfl, List.append_nil] at he
    rw [show 0 + 1 + q = q + 1 by omega, wispref20_Read.l0, if_neg (by omega), he, RArt_f (rrL t) (rrL_B t) (rrL_len t) q hq, Option.bind_some]
    split <;> rfl
  | n + 1, i, acc, hi, ha, he => by
    rw [show n + 1 + 1 + q = (n + 1 + q) + 1 by omega, RRead_step t ht acc i _ (by omega) (by omega) (by omega)]
    exact RRead_l0 t ht q hq n (i + 1) _ (by omega) (by simp; omega) (by rw [List.append_assoc, ← he]; rfl)
theorem dig_px : ∀ n : Nat, n < 256 → rr ((px (n : Int)).getD 0 0) ((px (n : Int)).getD 1 0) = (n : Int) := by decide +kernel
theorem rrF_art (s : List Int) (hb : allB s) : ∀ n i, i + n = 3072 → s.length = 3072 → rrF (artOf s) n i = s.drop i
  | 0, i, h, hs => by rw [List.drop_of_length_le (by omega)]; rfl
  | n + 1, i, h, hs => by
    have h1 := art_bt s hb i (by omega)
    have h2 := byteN (p := fun x => rr ((px x).getD 0 0) ((px x).getD 1 0) = x) dig_px (rdB hb (i : Int))
    simp only [rrF]
    rw [rrF_art s hb n (i + 1) (by omega) hs, List.drop_eq_getElem_cons (show i < s.length by omega)]
    unfold rrv
    rw [h1.1, h1.2, h2]
    congr 1
    unfold rd
    rw [Int.toNat_natCast, List.getD_eq_getElem?_getD, List.getElem?_eq_getElem (by omega)]; rfl
theorem rrL_art (s : List Int) (hb : allB s) (hs : s.length = 3072) : rrL (artOf s) = s := by
  unfold rrL; rw [rrF_art s hb 3072 0 (by omega) hs, List.drop_zero]
/-- two texts of the same bytes are one -/
theorem str_ext {s t : ByteArray} (h : s.toList = t.toList) : s = t := by
  have h2 := (toList_same s t).1 h
  unfold bytesOf at h2
  apply ByteArray.ext
  apply Array.ext'
  exact (List.map_inj_right (fun a b e => by
    have e2 : a.toNat = b.toNat := by omega
    exact UInt8.toNat_inj.1 e2)).1 h2
/-- Read of any text -/
def readA (t : ByteArray) : List Int × Int := if t.size = 6192 ∧ (artOf (rdL t)).toList = t.toList then (rdL t, 0) else ([], 2)
theorem readA_B (t : ByteArray) : allB (readA t).1 := by
  unfold readA
  split
  · exact rdL_B t
  · intro x hx; simp at hx
theorem readA_len (t : ByteArray) : (readA t).1.length ≤ 3072 := by
  unfold readA
  split
  · show (rdL t).length ≤ 3072; rw [rdL_len]; omega
  · simp
theorem Read_any (t : ByteArray) (k : Nat) (hk : 6300 ≤ k) : shot_Read.f k t = some (readA t) := Read_f t k hk
theorem RRead_any (t : ByteArray) (k : Nat) (hk : 6300 ≤ k) : wispref20_Read.f k t = some (readA t) := by
  unfold readA wispref20_Read.f
  by_cases ht : t.size = 6192
  · rw [if_pos (by omega)]
    have h := RRead_l0 t ht (k - 3073) (by omega) 3072 0 [] (by omega) (by simp) rfl
    rw [show 3072 + 1 + (k - 3073) = k by omega] at h
    refine h.trans ?_
    by_cases h2 : (artOf (rdL t)).toList = t.toList
    · have e := str_ext h2
      have e2 : rrL t = rdL t := by
        rw [← e, rrL_art _ (rdL_B t) (rdL_len t), e]
      rw [e2, if_pos h2, if_pos ⟨ht, h2⟩]
    · have h3 : ¬ (artOf (rrL t)).toList = t.toList := fun h3 => by
        have e := str_ext h3
        apply h2
        rw [← e, rdL_art _ (rrL_B t) (rrL_len t)]
      rw [if_neg h3, if_neg (fun e => h2 e.2)]
  · rw [if_neg (by omega), if_neg (fun e => ht e.1)]
end Go.Proofs.Ytpjdgndbcjinjaa.P
