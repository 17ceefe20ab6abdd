/- The statement TextForms over numbers and lists alone: a number's decimal, hexadecimal and binary numerals are one cell or all too great; spoilt they are none. -/
import Derived.Test.YtjphhnhloeanlaaPx11
import Derived.Test.YtjphhnhloeanlaaMath1
namespace Go.Proofs.Ytjphhnhloeanlaa.Pure
set_option linter.unusedSimpArgs false
set_option linter.unusedVariables false
open Go.RowKit Go.Proofs.Ytjphhnhloeanlaa.P Go.Proofs.YtjphhnhloeanlaaW.PrintWords Go.Proofs.YtjphhnhloeanlaaW.PrintLast Go.Proofs.YtjphhnhloeanlaaW.PrintMore

/-! ### the statement TextForms -/
def finP (m : Int) : Int × Int := if m > 65535 then (0, 21) else (m, 0)
theorem fin_finP {m : Int} (h0 : 0 ≤ m) : fin 1 (if 65536 < m then 65536 else m) = finP m := by
  unfold fin finP
  by_cases g : 65536 < m
  · rw [if_pos g, if_neg (by omega), if_pos (by omega), if_pos (by omega)]
  · rw [if_neg g, if_neg (by omega)]
    by_cases h : m > 65535
    · rw [if_pos (by omega), if_pos h]
    · rw [if_neg (by omega), if_neg h]; congr 1; omega
theorem acc_bad (base : Int) (c : Int) (hc : ¬ dv c < base) : ∀ (l : List Int) (n : Int), (∀ d ∈ l, dv d < base) → acc 65536 base n (l ++ [c]) = none
  | [], n, hl => by simp only [List.nil_append, acc]; rw [if_neg hc]
  | d :: r, n, hl => by
    simp only [List.cons_append, acc]
    rw [if_pos (hl d (by simp))]
    exact acc_bad base c hc r _ (fun z hz => hl z (by simp [hz]))
theorem num_bad (sign base : Int) (c : Int) (hc : ¬ dv c < base) (l : List Int) (hl : ∀ d ∈ l, dv d < base) : num sign base (l ++ [c]) = (0, 20) := by
  unfold num
  rw [if_neg (by simp), acc_bad base c hc l 0 hl]
theorem str_one {y : Int} (h0 : 0 ≤ y) (h1 : y ≤ 255) : bytesOf (strOfNums [y]) = [y] := bytes_str _ (by simp; omega)
/-- What stands in front when a number's digits are told, the last one first. -/
def front (base v : Nat) (A : List Int) : List Int := if v = 0 then (if A = [] then [48] else A) else digL base v ++ A
theorem front_step (base v : Nat) (hb : 2 ≤ base) (A : List Int) (h : 0 < v ∨ A = []) : front base v A = front base (v / base) (dg ((v % base : Nat) : Int) :: A) := by
  unfold front
  by_cases c : v = 0
  · subst c
    have ha : A = [] := by rcases h with h | h; omega; exact h
    subst ha
    simp [dg]
  · rw [if_neg c]
    by_cases d : v < base
    · rw [digL_small d, if_pos (Nat.div_eq_of_lt d), if_neg (by simp), Nat.mod_eq_of_lt d]; rfl
    · rw [digL_big hb (by omega), if_neg (by have := Nat.div_pos (show base ≤ v by omega) (by omega); omega)]; simp
theorem front_start (base m : Nat) (hb : 2 ≤ base) : front base m [] = digL base m := by
  unfold front
  by_cases c : m = 0
  · subst c; rw [if_pos rfl, if_pos rfl, digL_small (by omega)]; rfl
  · rw [if_neg c, List.append_nil]
section
variable (c : Int) (m : Nat)
theorem forms_l0 (x7 x8 : ByteArray) (v : Nat) : ∀ (k : Nat) (s : ByteArray) (A : List Int), bytesOf s = A → v ≤ 70000 → A.length + v ≤ 80000 → v + 2 < k → ∃ k' t, k ≤ k' + v + 2 ∧ bytesOf t = front 10 v A ∧ wisplaw02_TextForms.l0 k c m s x7 x8 v = wisplaw02_TextForms.l1 k' c m t x7 x8 m := by
  induction v using Nat.strongRecOn with
  | _ v ih =>
    intro k s A hs hv hA hk
    obtain ⟨k, rfl⟩ : ∃ q, k = q + 1 := ⟨k - 1, by omega⟩
    have t1 : (wrap64 (48 + Int.tmod (v : Int) 10)) % 256 = dg ((v % 10 : Nat) : Int) := by
      rw [Int.tmod_eq_emod_of_nonneg (by omega), wrap64_u (by omega) (by omega)]; unfold dg; rw [if_pos (by omega)]; omega
    have t0 : wrap64 (Int.tdiv (v : Int) 10) = ((v / 10 : Nat) : Int) := by rw [Int.tdiv_eq_ediv_of_nonneg (by omega), wrap64_u (by omega) (by omega)]; omega
    have dr := dg_range (d := ((v % 10 : Nat) : Int)) (by omega) (by omega)
    have b1 : bytesOf (strOfNums [dg ((v % 10 : Nat) : Int)]) = [dg ((v % 10 : Nat) : Int)] := str_one (by omega) (by omega)
    have z1 : (strOfNums [dg ((v % 10 : Nat) : Int)]).size = 1 := by rw [← bytesOf_length, b1]; rfl
    have z2 : s.size = A.length := by rw [← bytesOf_length, hs]
    simp only [wisplaw02_TextForms.l0, Option.bind_some, t1, t0]
    by_cases g : v = 0
    · subst g
      rw [if_neg (by simp)]
      by_cases e : A = []
      · subst e
        have hn : s.toList = ([] : List UInt8) := (toList_nil s).2 (by rw [z2]; rfl)
        rw [if_pos hn, if_pos (by omega)]
        obtain ⟨k, rfl⟩ : ∃ q, k = q + 1 := ⟨k - 1, by omega⟩
        have hne : ¬ (strOfNums [dg ((0 % 10 : Nat) : Int)] ++ s).toList = ([] : List UInt8) := fun h => by
          have := (toList_nil _).1 h; rw [ByteArray.size_append, z1] at this; omega
        refine ⟨k, strOfNums [dg ((0 % 10 : Nat) : Int)] ++ s, by omega, ?_, ?_⟩
        · rw [bytes_append, b1, hs]; rfl
        · simp only [wisplaw02_TextForms.l0, Option.bind_some]
          rw [if_neg (by simp), if_neg hne]
      · rw [if_neg (fun h => e (by have := (toList_nil s).1 h; exact List.eq_nil_of_length_eq_zero (by omega)))]
        exact ⟨k, s, by omega, by rw [hs]; unfold front; rw [if_pos rfl, if_neg e], rfl⟩
    · rw [if_pos (by omega), if_pos (by omega)]
      obtain ⟨k', t, h1, h2, h3⟩ := ih (v / 10) (by omega) k (strOfNums [dg ((v % 10 : Nat) : Int)] ++ s) (dg ((v % 10 : Nat) : Int) :: A) (by rw [bytes_append, b1, hs]; rfl) (by omega) (by simp; omega) (by omega)
      exact ⟨k', t, by omega, by rw [h2, ← front_step 10 v (by omega) A (.inl (by omega))], h3⟩
theorem forms_l2 (x6 x7 : ByteArray) (v : Nat) : ∀ (k : Nat) (s : ByteArray) (A : List Int), bytesOf s = A → v ≤ 70000 → A.length + v ≤ 80000 → v + 2 < k → ∃ k' t, k ≤ k' + v + 2 ∧ bytesOf t = front 2 v A ∧ wisplaw02_TextForms.l2 k c m x6 x7 s v = (if (m : Int) > 65535 then (wisplaw02_TextForms.j3 k' c m x6 x7 t 0 21) else (wisplaw02_TextForms.j3 k' c m x6 x7 t (IntKind.u16.wrap m) 0)) := by
  induction v using Nat.strongRecOn with
  | _ v ih =>
    intro k s A hs hv hA hk
    obtain ⟨k, rfl⟩ : ∃ q, k = q + 1 := ⟨k - 1, by omega⟩
    have t1 : (wrap64 (48 + Int.tmod (v : Int) 2)) % 256 = dg ((v % 2 : Nat) : Int) := by
      rw [Int.tmod_eq_emod_of_nonneg (by omega), wrap64_u (by omega) (by omega)]; unfold dg; rw [if_pos (by omega)]; omega
    have t0 : wrap64 (Int.tdiv (v : Int) 2) = ((v / 2 : Nat) : Int) := by rw [Int.tdiv_eq_ediv_of_nonneg (by omega), wrap64_u (by omega) (by omega)]; omega
    have dr := dg_range (d := ((v % 2 : Nat) : Int)) (by omega) (by omega)
    have b1 : bytesOf (strOfNums [dg ((v % 2 : Nat) : Int)]) = [dg ((v % 2 : Nat) : Int)] := str_one (by omega) (by omega)
    have z1 : (strOfNums [dg ((v % 2 : Nat) : Int)]).size = 1 := by rw [← bytesOf_length, b1]; rfl
    have z2 : s.size = A.length := by rw [← bytesOf_length, hs]
    simp only [wisplaw02_TextForms.l2, Option.bind_some, t1, t0]
    by_cases g : v = 0
    · subst g
      rw [if_neg (by simp)]
      by_cases e : A = []
      · subst e
        have hn : s.toList = ([] : List UInt8) := (toList_nil s).2 (by rw [z2]; rfl)
        rw [if_pos hn, if_pos (by omega)]
        obtain ⟨k, rfl⟩ : ∃ q, k = q + 1 := ⟨k - 1, by omega⟩
        have hne : ¬ (strOfNums [dg ((0 % 2 : Nat) : Int)] ++ s).toList = ([] : List UInt8) := fun h => by
          have := (toList_nil _).1 h; rw [ByteArray.size_append, z1] at this; omega
        refine ⟨k, strOfNums [dg ((0 % 2 : Nat) : Int)] ++ s, by omega, ?_, ?_⟩
        · rw [bytes_append, b1, hs]; rfl
        · simp only [wisplaw02_TextForms.l2, Option.bind_some]
          rw [if_neg (by simp), if_neg hne]
      · rw [if_neg (fun h => e (by have := (toList_nil s).1 h; exact List.eq_nil_of_length_eq_zero (by omega)))]
        exact ⟨k, s, by omega, by rw [hs]; unfold front; rw [if_pos rfl, if_neg e], rfl⟩
    · rw [if_pos (by omega), if_pos (by omega)]
      obtain ⟨k', t, h1, h2, h3⟩ := ih (v / 2) (by omega) k (strOfNums [dg ((v % 2 : Nat) : Int)] ++ s) (dg ((v % 2 : Nat) : Int) :: A) (by rw [bytes_append, b1, hs]; rfl) (by omega) (by simp; omega) (by omega)
      exact ⟨k', t, by omega, by rw [h2, ← front_step 2 v (by omega) A (.inl (by omega))], h3⟩
theorem forms_l1 (x6 x8 : ByteArray) (v : Nat) : ∀ (k : Nat) (s : ByteArray) (A : List Int), bytesOf s = A → v ≤ 70000 → A.length + v ≤ 80000 → v + 2 < k → ∃ k' t, k ≤ k' + v + 2 ∧ bytesOf t = front 16 v A ∧ wisplaw02_TextForms.l1 k c m x6 s x8 v = wisplaw02_TextForms.l2 k' c m x6 t x8 m := by
  induction v using Nat.strongRecOn with
  | _ v ih =>
    intro k s A hs hv hA hk
    obtain ⟨k, rfl⟩ : ∃ q, k = q + 1 := ⟨k - 1, by omega⟩
    have t1 : Int.tmod (v : Int) 16 = ((v % 16 : Nat) : Int) := by rw [Int.tmod_eq_emod_of_nonneg (by omega)]; omega
    have t2 : wrap64 (((v % 16 : Nat) : Int) + 1) = ((v % 16 : Nat) : Int) + 1 := wrap64_u (by omega) (by omega)
    have t0 : wrap64 (Int.tdiv (v : Int) 16) = ((v / 16 : Nat) : Int) := by rw [Int.tdiv_eq_ediv_of_nonneg (by omega), wrap64_u (by omega) (by omega)]; omega
    have b1 := extract_DG ((v % 16 : Nat) : Int) (by omega) (by omega)
    unfold DG at b1
    have z2 : s.size = A.length := by rw [← bytesOf_length, hs]
    simp only [wisplaw02_TextForms.l1, t1, t2, t0]
    generalize hq : (ByteArray.extract _ ((v % 16 : Nat) : Int).toNat (((v % 16 : Nat) : Int) + 1).toNat) = q at *
    have z1 : q.size = 1 := by rw [← bytesOf_length, b1]; rfl
    have c1 : 0 ≤ ((v % 16 : Nat) : Int) := by omega
    have c2 : ((v % 16 : Nat) : Int) ≤ ((v % 16 : Nat) : Int) + 1 := by omega
    have c3 : ((v % 16 : Nat) : Int) + 1 ≤ 16 := by omega
    have c4 : q.size + s.size ≤ 9223372036854775807 := by omega
    simp only [if_pos c1, if_pos c2, if_pos c3, if_pos c4]
    by_cases g : v = 0
    · subst g
      rw [if_neg (by simp)]
      by_cases e : A = []
      · subst e
        have hn : s.toList = ([] : List UInt8) := (toList_nil s).2 (by rw [z2]; rfl)
        rw [if_pos hn]
        obtain ⟨k, rfl⟩ : ∃ q, k = q + 1 := ⟨k - 1, by omega⟩
        have hne : ¬ (q ++ s).toList = ([] : List UInt8) := fun h => by
          have := (toList_nil _).1 h; rw [ByteArray.size_append, z1] at this; omega
        refine ⟨k, q ++ s, by omega, ?_, ?_⟩
        · rw [bytes_append, b1, hs]; rfl
        · simp only [wisplaw02_TextForms.l1]
          rw [if_neg (by simp), if_neg hne]
      · rw [if_neg (fun h => e (by have := (toList_nil s).1 h; exact List.eq_nil_of_length_eq_zero (by omega)))]
        exact ⟨k, s, by omega, by rw [hs]; unfold front; rw [if_pos rfl, if_neg e], rfl⟩
    · rw [if_pos (by omega)]
      obtain ⟨k', t, h1, h2, h3⟩ := ih (v / 16) (by omega) k (q ++ s) (dg ((v % 16 : Nat) : Int) :: A) (by rw [bytes_append, b1, hs]; rfl) (by omega) (by simp; omega) (by omega)
      exact ⟨k', t, by omega, by rw [h2, ← front_step 16 v (by omega) A (.inl (by omega))], h3⟩
variable (hm : m ≤ 70000) {D H B : ByteArray} (hD : bytesOf D = digL 10 m) (hH : bytesOf H = digL 16 m) (hB : bytesOf B = digL 2 m) (hc0 : 0 ≤ c) (hc1 : c ≤ 255)
include hm hD hH hB hc0 hc1
omit hc0 hc1 in
theorem forms_sizes : D.size ≤ 18 ∧ H.size ≤ 18 ∧ B.size ≤ 18 := by
  have a := digL_len (base := 10) (by omega) m 17 (by omega)
  have b := digL_len (base := 16) (by omega) m 17 (by omega)
  have d := digL_len (base := 2) (by omega) m 17 (by omega)
  rw [← hD, bytesOf_length] at a
  rw [← hH, bytesOf_length] at b
  rw [← hB, bytesOf_length] at d
  exact ⟨a, b, d⟩
theorem forms_j6 (k : Nat) (hk : 100 < k) (b : Bool) (hb : b = true ∨ dv c = 99) : wisplaw02_TextForms.j6 k c D H B b = some true := by
  obtain ⟨k, rfl⟩ : ∃ q, k = q + 1 := ⟨k - 1, by omega⟩
  obtain ⟨z1, z2, z3⟩ := forms_sizes m hm hD hH hB
  simp only [wisplaw02_TextForms.j6, Option.bind_some]
  cases b with
  | true => simp
  | false =>
    have hd : dv c = 99 := by rcases hb with h | h; cases h; exact h
    have b1 : bytesOf (strOfNums [c]) = [c] := str_one hc0 hc1
    have y1 : (strOfNums [c]).size = 1 := by rw [← bytesOf_length, b1]; rfl
    have e1 : bytesOf (D ++ strOfNums [c]) = digL 10 m ++ [c] := by rw [bytes_append, hD, b1]
    have e2 : bytesOf (((⟨#[36]⟩ : ByteArray) ++ H) ++ strOfNums [c]) = 36 :: (digL 16 m ++ [c]) := by rw [bytes_append, bytes_append, hH, b1]; rfl
    have e3 : bytesOf (((⟨#[37]⟩ : ByteArray) ++ B) ++ strOfNums [c]) = 37 :: (digL 2 m ++ [c]) := by rw [bytes_append, bytes_append, hB, b1]; rfl
    have s1 : (D ++ strOfNums [c]).size ≤ 40 := by rw [ByteArray.size_append]; omega
    have s2 : ((⟨#[36]⟩ : ByteArray) ++ H).size ≤ 30 := by rw [ByteArray.size_append]; show 1 + H.size ≤ 30; omega
    have s3 : ((⟨#[37]⟩ : ByteArray) ++ B).size ≤ 30 := by rw [ByteArray.size_append]; show 1 + B.size ≤ 30; omega
    have s4 : (((⟨#[36]⟩ : ByteArray) ++ H) ++ strOfNums [c]).size ≤ 40 := by rw [ByteArray.size_append]; omega
    have s5 : (((⟨#[37]⟩ : ByteArray) ++ B) ++ strOfNums [c]).size ≤ 40 := by rw [ByteArray.size_append]; omega
    have n1 : numeral (digL 10 m ++ [c]) = (0, 20) := by
      have h0 := rd0_mem (digL_ne 10 m)
      have h1 := (digL_digits (base := 10) (by omega) (by omega) m _ h0).2.1
      rw [← rd0_of (m := [c]) (digL_ne 10 m)] at h1
      unfold numeral
      rw [if_neg (fun z => by have := z.2.1; omega), if_neg (by simp), if_neg (by omega), if_neg (by omega), if_neg (by omega)]
      exact num_bad 1 10 c (by omega) _ (fun d hd => (digL_digits (base := 10) (by omega) (by omega) m d hd).1)
    have n2 : numeral (36 :: (digL 16 m ++ [c])) = (0, 20) := by
      rw [numeral_hex]; exact num_bad 1 16 c (by omega) _ (fun d hd => (digL_digits (base := 16) (by omega) (by omega) m d hd).1)
    have n3 : numeral (37 :: (digL 2 m ++ [c])) = (0, 20) := by
      rw [numeral_bin]; exact num_bad 1 2 c (by omega) _ (fun d hd => (digL_digits (base := 2) (by omega) (by omega) m d hd).1)
    rw [if_neg (by simp), if_pos (by omega), told_true _ (by omega) 0 20 k (by omega) (by rw [e1, n1])]
    simp only [Option.bind_some, if_true]
    rw [if_pos (by omega), if_pos (by omega), told_true _ (by omega) 0 20 k (by omega) (by rw [e2, n2])]
    simp only [Option.bind_some, if_true]
    rw [if_pos (by omega), if_pos (by omega), told_true _ (by omega) 0 20 k (by omega) (by rw [e3, n3])]
    rfl
theorem forms_j5 (k : Nat) (hk : 102 < k) : wisplaw02_TextForms.j5 k c D H B = some true := by
  obtain ⟨k, rfl⟩ : ∃ q, k = q + 1 := ⟨k - 1, by omega⟩
  have h := fun b hb => forms_j6 c m hm hD hH hB hc0 hc1 k (by omega) b hb
  simp only [wisplaw02_TextForms.j5]
  (repeat' split) <;> apply h
  · exact .inl rfl
  · by_cases g : c ≤ 102
    · exact .inl (by simpa using g)
    · exact .inr (by unfold dv; rw [if_neg (by omega), if_neg (by omega)])
  · exact .inr (by unfold dv; rw [if_neg (by omega), if_neg (by omega)])
  · by_cases g : c ≤ 102
    · exact .inl (by simpa using g)
    · exact .inr (by unfold dv; rw [if_neg (by omega), if_neg (by omega)])
  · exact .inr (by unfold dv; rw [if_neg (by omega), if_neg (by omega)])
theorem forms_j4 (k : Nat) (hk : 104 < k) : wisplaw02_TextForms.j4 k c m D H B false = some true := by
  obtain ⟨k, rfl⟩ : ∃ q, k = q + 1 := ⟨k - 1, by omega⟩
  obtain ⟨z1, z2, z3⟩ := forms_sizes m hm hD hH hB
  have h := forms_j5 c m hm hD hH hB hc0 hc1 k (by omega)
  simp only [wisplaw02_TextForms.j4]
  rw [if_neg (by simp)]
  by_cases g : (m : Int) ≤ 32768
  · have s2 : ((⟨#[45]⟩ : ByteArray) ++ D).size ≤ 30 := by rw [ByteArray.size_append]; show 1 + D.size ≤ 30; omega
    have e : bytesOf ((⟨#[45]⟩ : ByteArray) ++ D) = 45 :: digL 10 m := by rw [bytes_append, hD]; rfl
    have n : numeral (45 :: digL 10 m) = (IntKind.u16.wrap (-(IntKind.u16.wrap (m : Int))), 0) := by
      rw [numeral_neg, num_dec0, u16_wrap, u16_wrap]
      unfold fin
      rw [if_neg (show ¬ (65536 : Int) < (m : Int) by omega), if_neg (by omega), if_neg (by omega)]
      congr 1; omega
    rw [if_pos g, if_pos (by omega), told_true _ (by omega) _ _ k (by omega) (by rw [e, n])]
    simp only [Option.bind_some, if_true]
    exact h
  · rw [if_neg g]; exact h
theorem forms_j3 (k : Nat) (hk : 106 < k) (x e : Int) (hxe : (x, e) = finP m) : wisplaw02_TextForms.j3 k c m D H B x e = some true := by
  obtain ⟨k, rfl⟩ : ∃ q, k = q + 1 := ⟨k - 1, by omega⟩
  obtain ⟨z1, z2, z3⟩ := forms_sizes m hm hD hH hB
  have e2 : bytesOf ((⟨#[36]⟩ : ByteArray) ++ H) = 36 :: digL 16 m := by rw [bytes_append, hH]; rfl
  have e3 : bytesOf ((⟨#[37]⟩ : ByteArray) ++ B) = 37 :: digL 2 m := by rw [bytes_append, hB]; rfl
  have s2 : ((⟨#[36]⟩ : ByteArray) ++ H).size ≤ 30 := by rw [ByteArray.size_append]; show 1 + H.size ≤ 30; omega
  have s3 : ((⟨#[37]⟩ : ByteArray) ++ B).size ≤ 30 := by rw [ByteArray.size_append]; show 1 + B.size ≤ 30; omega
  simp only [wisplaw02_TextForms.j3]
  rw [told_true _ (by omega) x e k (by omega) (by rw [hD, numeral_dec _ (digL_ne 10 m) (fun c hc => (digL_digits (by omega) (by omega) m c hc).2.1), num_dec0, fin_finP (by omega), hxe])]
  simp only [Option.bind_some, if_true]
  rw [if_pos (by omega), told_true _ (by omega) x e k (by omega) (by rw [e2, numeral_hex, num_hex0, fin_finP (by omega), hxe])]
  simp only [Option.bind_some, if_true]
  rw [if_pos (by omega), told_true _ (by omega) x e k (by omega) (by rw [e3, numeral_bin, num_bin0, fin_finP (by omega), hxe])]
  exact forms_j4 c m hm hD hH hB hc0 hc1 k (by omega)
end
theorem TextForms : wisplaw02_TextForms.Pure := by
  intro n c hn hc
  obtain ⟨hn0, hn1⟩ := bounds_i64 hn
  have hc' : 0 ≤ c ∧ c ≤ 255 := by
    simp [Lit.wf, IntKind.min, IntKind.max, IntKind.signed, IntKind.bits] at hc
    omega
  refine ⟨300000 + 60, ?_⟩
  unfold wisplaw02_TextForms.f
  have q1 := Int.natAbs_tmod n 110001
  have q3 := Nat.mod_lt n.natAbs (show 110001 > 0 by omega)
  rw [show Int.natAbs 110001 = 110001 from rfl] at q1
  obtain ⟨r, hr, r0, r1⟩ : ∃ r, Int.tmod n 110001 = r ∧ -110001 < r ∧ r < 110001 := ⟨_, rfl, by omega, by omega⟩
  rw [hr, wrap64_u (x := r + 110001) (by omega) (by omega)]
  have q2 : Int.tmod (r + 110001) 110001 = (r + 110001) % 110001 := Int.tmod_eq_emod_of_nonneg (by omega)
  rw [q2]
  obtain ⟨u, hu, u0, u1⟩ : ∃ u, (r + 110001) % 110001 = u ∧ 0 ≤ u ∧ u ≤ 110000 := ⟨_, rfl, by omega, by omega⟩
  rw [hu, wrap64_u (x := u - 40000) (by omega) (by omega), wrap64_u (x := -(u - 40000)) (by omega) (by omega)]
  obtain ⟨m, hm, hm1⟩ : ∃ m : Nat, mx (u - 40000) (-(u - 40000)) = m ∧ m ≤ 70000 := by
    have : 0 ≤ mx (u - 40000) (-(u - 40000)) ∧ mx (u - 40000) (-(u - 40000)) ≤ 70000 := by unfold mx; split <;> omega
    exact ⟨(mx (u - 40000) (-(u - 40000))).toNat, by omega, by omega⟩
  rw [hm, fixed_text]
  simp only [Option.bind_some, if_true]
  obtain ⟨k1, D, h1, hD, e1⟩ := forms_l0 c m ⟨#[]⟩ ⟨#[]⟩ m (300000 + 60) ⟨#[]⟩ [] rfl hm1 (by simp; omega) (by omega)
  obtain ⟨k2, H, h2, hH, e2⟩ := forms_l1 c m D ⟨#[]⟩ m k1 ⟨#[]⟩ [] rfl hm1 (by simp; omega) (by omega)
  obtain ⟨k3, B, h3, hB, e3⟩ := forms_l2 c m D H m k2 ⟨#[]⟩ [] rfl hm1 (by simp; omega) (by omega)
  rw [front_start _ _ (by omega)] at hD hH hB
  rw [e1, e2, e3]
  by_cases g : (m : Int) > 65535
  · rw [if_pos g]
    exact forms_j3 c m hm1 hD hH hB hc'.1 hc'.2 k3 (by omega) 0 21 (by unfold finP; rw [if_pos g])
  · rw [if_neg g]
    exact forms_j3 c m hm1 hD hH hB hc'.1 hc'.2 k3 (by omega) _ 0 (by unfold finP; rw [if_neg g, u16_wrap]; congr 1; omega)
end Go.Proofs.Ytjphhnhloeanlaa.Pure
