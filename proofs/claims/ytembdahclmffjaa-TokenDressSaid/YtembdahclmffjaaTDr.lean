/- The statement TokenDress over numbers and lists alone. -/
import Derived.Test.YtembdahclmffjaaDr
import Derived.Test.YtembdahclmffjaaTd14
namespace Go.Proofs.Ytembdahclmffjaa.Pure
set_option linter.unusedSimpArgs false
set_option linter.unusedVariables false
open Go.RowKit Go.Proofs.Ytembdahclmffjaa.P Go.Proofs.YtembdahclmffjaaW.PrintWords Go.Proofs.YtembdahclmffjaaW.PrintLast Go.Proofs.YtembdahclmffjaaW.PrintMore
set_option maxRecDepth 100000 in
theorem fixed_300d : wisplaw09_fixed.f 300 = some true := by decide +kernel
theorem fixed_upd : ∀ d, wisplaw09_fixed.f (300 + d) = some true
  | 0 => fixed_300d
  | d + 1 => wisplaw09_fixed.mono (300 + d) true (fixed_upd d)
theorem fixed_okd (k : Nat) (hk : 300 ≤ k) : wisplaw09_fixed.f k = some true := by
  have := fixed_upd (k - 300)
  rwa [show 300 + (k - 300) = k by omega] at this
/-- bytes of which none is c -/
def No (c : Int) (X : List Int) : Prop := ∀ x ∈ X, 0 ≤ x ∧ x ≤ 255 ∧ x ≠ c
theorem No.snoc {c x : Int} {X : List Int} (h : No c X) (h0 : 0 ≤ x) (h1 : x ≤ 255) (h2 : x ≠ c) : No c (X ++ [x]) := fun y hy => by
  rcases List.mem_append.1 hy with h3 | h3
  · exact h y h3
  · rw [List.mem_singleton.1 h3]; exact ⟨h0, h1, h2⟩
theorem No.bytes {c : Int} {X : List Int} (h : No c X) : bytesOf (strOfNums X) = X := bytes_str X (fun x hx => ⟨(h x hx).1, (h x hx).2.1⟩)
theorem No.size {c : Int} {X : List Int} (h : No c X) : (strOfNums X).size = X.length := by rw [← bytesOf_length, h.bytes]
theorem size3 (a b c : UInt8) (S : ByteArray) : ((⟨#[a, b, c]⟩ : ByteArray) ++ S).size = 3 + S.size := by rw [ByteArray.size_append]; rfl
theorem dressed_end {X Y : List Int} (hX : No 41 X) (hY : No 10 Y) (lX : X.length ≤ 20) (lY : Y.length ≤ 20) (s : ByteArray) (i : Int) (k : Nat) :
    wisplaw09_dressed.j1 (k + 1) s X Y i false = some (((⟨#[32, 40, 32]⟩ : ByteArray) ++ strOfNums X) ++ (⟨#[41]⟩ : ByteArray), ((⟨#[9, 92, 32]⟩ : ByteArray) ++ strOfNums Y) ++ (⟨#[10]⟩ : ByteArray)) := by
  have s1 := hX.size
  have s2 := hY.size
  rw [wisplaw09_dressed.j1, if_neg (by simp), if_pos (by omega), if_pos (by rw [size3]; omega), if_pos (by omega), if_pos (by rw [size3]; omega)]
theorem dressed_loop (s : ByteArray) : ∀ (d i k : Nat) (X Y : List Int), i + d = 20 → No 41 X → No 10 Y → X.length ≤ i → Y.length ≤ i → 2 * d + 2 < k →
    ∃ X' Y', No 41 X' ∧ No 10 Y' ∧ X'.length ≤ 20 ∧ Y'.length ≤ 20 ∧ wisplaw09_dressed.l0 k s X Y (i : Int) = some (((⟨#[32, 40, 32]⟩ : ByteArray) ++ strOfNums X') ++ (⟨#[41]⟩ : ByteArray), ((⟨#[9, 92, 32]⟩ : ByteArray) ++ strOfNums Y') ++ (⟨#[10]⟩ : ByteArray))
  | 0, i, k, X, Y, hd, hX, hY, lX, lY, hk => by
    obtain ⟨k, rfl⟩ : ∃ q, k = q + 2 := ⟨k - 2, by omega⟩
    refine ⟨X, Y, hX, hY, by omega, by omega, ?_⟩
    rw [wisplaw09_dressed.l0]
    by_cases c : (i : Int) < (s.size : Int)
    · rw [if_pos c, decide_eq_false (by omega)]; exact dressed_end hX hY (by omega) (by omega) s i k
    · rw [if_neg c]; exact dressed_end hX hY (by omega) (by omega) s i k
  | d + 1, i, k, X, Y, hd, hX, hY, lX, lY, hk => by
    obtain ⟨k, rfl⟩ : ∃ q, k = q + 2 := ⟨k - 2, by omega⟩
    by_cases c : (i : Int) < (s.size : Int)
    · obtain ⟨b, hb⟩ : ∃ b, bt s (i : Int) = b := ⟨_, rfl⟩
      have hrng : 0 ≤ b ∧ b ≤ 255 := by
        rw [← hb, bt_lt s i (by omega)]
        have := s[i].toNat_lt
        omega
      have w1 : wrap64 ((i : Int) + 1) = ((i + 1 : Nat) : Int) := by rw [wrap64_u (by omega) (by omega)]; omega
      have h0 : (0 : Int) ≤ (i : Int) := by omega
      have e1 : wisplaw09_dressed.l0 (k + 2) s X Y (i : Int) = (if b = 41 then (if b = 10 then (wisplaw09_dressed.l0 k s X Y ((i + 1 : Nat) : Int)) else (if Y.length < 140737488355328 then (wisplaw09_dressed.l0 k s X (Y ++ [b]) ((i + 1 : Nat) : Int)) else (none))) else (if X.length < 140737488355328 then ((some (X ++ [b] : List Int)).bind fun y300 => (if b = 10 then (wisplaw09_dressed.l0 k s y300 Y ((i + 1 : Nat) : Int)) else (if Y.length < 140737488355328 then (wisplaw09_dressed.l0 k s y300 (Y ++ [b]) ((i + 1 : Nat) : Int)) else (none)))) else (none))) := by
        rw [wisplaw09_dressed.l0, if_pos c, decide_eq_true (by omega), wisplaw09_dressed.j1, if_pos rfl, if_pos h0, if_pos c, hb, w1]
      rw [e1]
      clear e1 w1
      by_cases c1 : b = 41
      · rw [if_pos c1, if_neg (by omega), if_pos (by omega)]
        exact dressed_loop s d (i + 1) k X (Y ++ [b]) (by omega) hX (hY.snoc hrng.1 hrng.2 (by omega)) (by omega) (by rw [List.length_append, List.length_singleton]; omega) (by omega)
      · rw [if_neg c1, if_pos (by omega), Option.bind_some]
        by_cases c2 : b = 10
        · rw [if_pos c2]
          exact dressed_loop s d (i + 1) k (X ++ [b]) Y (by omega) (hX.snoc hrng.1 hrng.2 c1) hY (by rw [List.length_append, List.length_singleton]; omega) (by omega) (by omega)
        · rw [if_neg c2, if_pos (by omega)]
          exact dressed_loop s d (i + 1) k (X ++ [b]) (Y ++ [b]) (by omega) (hX.snoc hrng.1 hrng.2 c1) (hY.snoc hrng.1 hrng.2 c2) (by rw [List.length_append, List.length_singleton]; omega) (by rw [List.length_append, List.length_singleton]; omega) (by omega)
    · refine ⟨X, Y, hX, hY, by omega, by omega, ?_⟩
      rw [wisplaw09_dressed.l0, if_neg c]; exact dressed_end hX hY (by omega) (by omega) s i k
/-- a dress as a string -/
def Dress (D : ByteArray) : Prop := Tr (bytesOf D) ∧ D.size ≤ 30
theorem dress_in {X : List Int} (hX : No 41 X) (lX : X.length ≤ 20) : Dress (((⟨#[32, 40, 32]⟩ : ByteArray) ++ strOfNums X) ++ (⟨#[41]⟩ : ByteArray)) := by
  have e : bytesOf (((⟨#[32, 40, 32]⟩ : ByteArray) ++ strOfNums X) ++ (⟨#[41]⟩ : ByteArray)) = 32 :: 40 :: 32 :: (X ++ [41]) := by
    rw [bytes_append, bytes_append, hX.bytes]
    show [32, 40, 32] ++ X ++ [41] = _
    simp
  refine ⟨by rw [e]; exact Tr_paren (by decide) (fun x hx => (hX x hx).2.2), ?_⟩
  rw [← bytesOf_length, e]; simp; omega
theorem dress_line {X : List Int} (hX : No 10 X) (lX : X.length ≤ 20) : Dress (((⟨#[9, 92, 32]⟩ : ByteArray) ++ strOfNums X) ++ (⟨#[10]⟩ : ByteArray)) := by
  have e : bytesOf (((⟨#[9, 92, 32]⟩ : ByteArray) ++ strOfNums X) ++ (⟨#[10]⟩ : ByteArray)) = 9 :: 92 :: 32 :: (X ++ [10]) := by
    rw [bytes_append, bytes_append, hX.bytes]
    show [9, 92, 32] ++ X ++ [10] = _
    simp
  refine ⟨by rw [e]; exact Tr_line (by decide) (fun x hx => (hX x hx).2.2), ?_⟩
  rw [← bytesOf_length, e]; simp; omega
theorem dress_one : Dress (⟨#[32]⟩ : ByteArray) := ⟨Tr_blanks (c := 32) (X := []) (by decide), by decide⟩
theorem dress_three : Dress (⟨#[13, 10, 9]⟩ : ByteArray) := ⟨Tr_blanks (c := 13) (X := [10, 9]) (by decide), by decide⟩
theorem rd_tok (A T : List S30) (t : S30) : rd_T30 (A ++ t :: T) (A.length : Int) = t := by
  simp [rd_T30, rdOf, List.getD_eq_getElem?_getD]
theorem words_loop {D : ByteArray} (hD : D.size ≤ 30) (L : List S30) (hL : L.length ≤ 300) (hg : ∀ t ∈ L, t.f1.size ≤ 31) : ∀ (B A : List S30) (s : ByteArray) (k : Nat), L = A ++ B → s.size ≤ 100 * A.length → bytesOf s = join (bytesOf D) (A.map fun t => bytesOf t.f1) → B.length < k →
    ∃ S, wisplaw09_words.l0 k L D s (A.length : Int) = some S ∧ bytesOf S = join (bytesOf D) (L.map fun t => bytesOf t.f1) ∧ S.size ≤ 30000
  | [], A, s, k, hA, hs, hb, hk => by
    obtain ⟨k, rfl⟩ : ∃ q, k = q + 1 := ⟨k - 1, by omega⟩
    rw [List.append_nil] at hA
    subst hA
    exact ⟨s, by rw [wisplaw09_words.l0, if_neg (by omega)], hb, by omega⟩
  | t :: B, A, s, k, hA, hs, hb, hk => by
    simp only [List.length_cons] at hk
    obtain ⟨k, rfl⟩ : ∃ q, k = q + 1 := ⟨k - 1, by omega⟩
    have hlen : A.length + B.length + 1 = L.length := by rw [hA]; simp; omega
    have ht := hg t (by rw [hA]; simp)
    have hrd : rd_T30 L (A.length : Int) = t := by rw [hA]; exact rd_tok A B t
    have w1 : wrap64 ((A.length : Int) + 1) = (((A ++ [t]).length : Nat) : Int) := by rw [wrap64_u (by omega) (by omega), List.length_append, List.length_singleton]; omega
    have h0 : (0 : Int) ≤ (A.length : Int) := by omega
    have h1 : (A.length : Int) < (L.length : Int) := by omega
    have hl : (A ++ [t]).length = A.length + 1 := by simp
    by_cases c : (A.length : Int) > 0
    · have hs2 : (s ++ D ++ t.f1).size = s.size + D.size + t.f1.size := by rw [ByteArray.size_append, ByteArray.size_append]
      have hs1 : (s ++ D).size = s.size + D.size := by rw [ByteArray.size_append]
      have e : wisplaw09_words.l0 (k + 1) L D s (A.length : Int) = wisplaw09_words.l0 k L D (s ++ D ++ t.f1) (((A ++ [t]).length : Nat) : Int) := by
        rw [wisplaw09_words.l0, if_pos h1, if_pos c, if_pos (by omega), if_pos h0, hrd, if_pos (by omega), w1]
      rw [e]
      refine words_loop hD L hL hg B (A ++ [t]) _ k (by rw [hA]; simp) (by rw [hs2, hl]; omega) ?_ (by omega)
      have hne : A.map (fun t => bytesOf t.f1) ≠ [] := by
        cases A with
        | nil => simp at c
        | cons a A => simp
      rw [bytes_append, bytes_append, hb, List.map_append]
      show _ = join _ (_ ++ [bytesOf t.f1])
      rw [join_snoc _ _ _ hne, List.append_assoc]
    · have hA0 : A = [] := by
        cases A with
        | nil => rfl
        | cons a A => simp at c
      subst hA0
      have hs0 : bytesOf s = [] := by rw [hb]; rfl
      have hss : s.size = 0 := by rw [← bytesOf_length, hs0]; rfl
      have e : wisplaw09_words.l0 (k + 1) L D s ((([] : List S30).length : Nat) : Int) = wisplaw09_words.l0 k L D (s ++ t.f1) ((([] ++ [t]).length : Nat) : Int) := by
        rw [wisplaw09_words.l0, if_pos h1, if_neg c, if_pos h0, hrd, if_pos (by omega), w1]
      rw [e]
      refine words_loop hD L hL hg B ([] ++ [t]) _ k (by rw [hA]; simp) (by rw [ByteArray.size_append, hl]; omega) ?_ (by omega)
      rw [bytes_append, hs0]; rfl
theorem words_eq {D : ByteArray} (hD : D.size ≤ 30) (L : List S30) (hL : L.length ≤ 300) (hg : ∀ t ∈ L, t.f1.size ≤ 31) (k : Nat) (hk : 300 < k) :
    ∃ S, wisplaw09_words.f k L D = some S ∧ bytesOf S = join (bytesOf D) (L.map fun t => bytesOf t.f1) ∧ S.size ≤ 30000 :=
  words_loop hD L hL hg L [] (⟨#[]⟩ : ByteArray) k rfl (by decide) rfl (by omega)
theorem same_loop (L T : List S30) (hn : L.length ≤ 65536) : ∀ (B C A E : List S30) (k : Nat), L = A ++ B → T = E ++ C → A.length = E.length → Likes Like B C → B.length < k →
    wisplaw09_sameWords.l0 k L T (A.length : Int) = some true
  | [], C, A, E, k, hA, hE, hl, hx, hk => by
    obtain ⟨k, rfl⟩ : ∃ q, k = q + 1 := ⟨k - 1, by omega⟩
    rw [List.append_nil] at hA
    subst hA
    rw [wisplaw09_sameWords.l0, if_neg (by omega)]
  | t :: B, C, A, E, k, hA, hE, hl, hx, hk => by
    simp only [List.length_cons] at hk
    obtain ⟨k, rfl⟩ : ∃ q, k = q + 1 := ⟨k - 1, by omega⟩
    cases hx with
    | @cons _ u _ C h1 h2 =>
      have hlen : A.length + B.length + 1 = L.length := by rw [hA]; simp; omega
      have hlen2 : E.length + C.length + 1 = T.length := by rw [hE]; simp; omega
      have r1 : rd_T30 L (A.length : Int) = t := by rw [hA]; exact rd_tok A B t
      have r2 : rd_T30 T (A.length : Int) = u := by rw [hE, hl]; exact rd_tok E C u
      have w1 : wrap64 ((A.length : Int) + 1) = (((A ++ [t]).length : Nat) : Int) := by rw [wrap64_u (by omega) (by omega), List.length_append, List.length_singleton]; omega
      obtain ⟨g1, g2, g3⟩ := h1
      rw [wisplaw09_sameWords.l0, if_pos (by omega), if_pos (by omega), if_pos (by omega), r1, r2, if_pos g1, if_pos ((toList_same _ _).2 g2), if_pos g3, w1]
      exact same_loop L T hn B C (A ++ [t]) (E ++ [u]) k (by rw [hA]; simp) (by rw [hE]; simp) (by simp [hl]) h2 (by omega)
theorem Likes.len {R} {L T : List S30} (h : Likes R L T) : L.length = T.length := by
  induction h with
  | nil => rfl
  | cons _ _ ih => simp [ih]
theorem same_eq {L T : List S30} (h : Likes Like L T) (hn : L.length ≤ 65536) (k : Nat) (hk : L.length < k) : wisplaw09_sameWords.f k L T = some true := by
  rw [wisplaw09_sameWords.f, if_pos (by rw [h.len])]
  exact same_loop L T hn L T [] [] k rfl rfl rfl h hk
theorem dress_loop (L : List S30) (hL : L.length ≤ 300) (hg : ∀ t ∈ L, Good t) (Ds : List ByteArray) (hDs : Ds.length ≤ 4) : ∀ (B A : List ByteArray) (k : Nat), Ds = A ++ B → (∀ D ∈ B, Dress D) → 5100000 + B.length < k →
    wisplaw09_TokenDress.l0 k L Ds (A.length : Int) = some true
  | [], A, k, hA, _, hk => by
    obtain ⟨k, rfl⟩ : ∃ q, k = q + 1 := ⟨k - 1, by omega⟩
    rw [List.append_nil] at hA
    subst hA
    rw [wisplaw09_TokenDress.l0, if_neg (by omega)]
  | D :: B, A, k, hA, hB, hk => by
    simp only [List.length_cons] at hk
    obtain ⟨k, rfl⟩ : ∃ q, k = q + 1 := ⟨k - 1, by omega⟩
    have hlen : A.length + B.length + 1 = Ds.length := by rw [hA]; simp; omega
    have r1 : rdOf ByteArray.empty Ds (A.length : Int) = D := by rw [hA]; simp [rdOf, List.getD_eq_getElem?_getD]
    have w1 : wrap64 ((A.length : Int) + 1) = (((A ++ [D]).length : Nat) : Int) := by rw [wrap64_u (by omega) (by omega), List.length_append, List.length_singleton]; omega
    have hD := hB D List.mem_cons_self
    obtain ⟨S, e1, e2, e3⟩ := words_eq hD.2 L hL (fun t ht => by have := (hg t ht).2.2.2.2.1; rw [bytesOf_length] at this; exact this) k (by omega)
    obtain ⟨T, e4, e5⟩ := dress_scan hD.1 hg e2 (by omega) k (by omega)
    have e6 := same_eq e5 (by omega) k (by omega)
    have ih := dress_loop L hL hg Ds hDs B (A ++ [D]) k (by rw [hA]; simp) (fun E hE => hB E (List.mem_cons_of_mem _ hE)) (by omega)
    rw [wisplaw09_TokenDress.l0, if_pos (by omega), if_pos (by omega), r1, e1, Option.bind_some, if_neg (by omega), e4, Option.bind_some]
    dsimp only
    rw [if_pos rfl, e6, Option.bind_some, if_pos rfl, w1]
    exact ih
theorem scan_good (s : ByteArray) : ∀ t ∈ (scanA s).1, Good t := by
  unfold scanA
  split
  · simp
  · have h := M_good s s.size 0
    unfold fin1
    split
    · simpa using h
    · simp
theorem dress_j0 (s u : ByteArray) (k : Nat) (hk : 5300000 < k) : wisplaw09_TokenDress.j0 k s u = some true := by
  obtain ⟨k, rfl⟩ : ∃ q, k = q + 2 := ⟨k - 2, by omega⟩
  have hg := scan_good s
  have f2 := fixed_okd (k + 1) (by omega)
  have f3 := fixed_okd k (by omega)
  have jt : ∀ L, wisplaw09_TokenDress.j1 (k + 1) u L true = some true := fun L => by
    rw [wisplaw09_TokenDress.j1, if_pos rfl, f3, Option.bind_some]
  rw [wisplaw09_TokenDress.j0, Scan_eq s (k + 1) (by omega), Option.bind_some, f2, Option.bind_some, if_pos rfl]
  generalize scanA s = r at hg ⊢
  obtain ⟨L, p, q, e⟩ := r
  dsimp only at hg ⊢
  by_cases c : e = 0
  · rw [if_pos c]
    by_cases c2 : (L.length : Int) > 300
    · rw [decide_eq_true c2]; exact jt L
    · rw [decide_eq_false c2, wisplaw09_TokenDress.j1, if_neg (by simp)]
      obtain ⟨X, Y, hX, hY, lX, lY, e1⟩ := dressed_loop u 20 0 k [] [] rfl (fun x hx => by cases hx) (fun x hx => by cases hx) (by simp) (by simp) (by omega)
      have e2 : wisplaw09_dressed.f k u = some (((⟨#[32, 40, 32]⟩ : ByteArray) ++ strOfNums X) ++ (⟨#[41]⟩ : ByteArray), ((⟨#[9, 92, 32]⟩ : ByteArray) ++ strOfNums Y) ++ (⟨#[10]⟩ : ByteArray)) := e1
      have d1 := dress_in hX lX
      have d2 := dress_line hY lY
      rw [e2, Option.bind_some]
      dsimp only
      refine dress_loop L (by omega) hg _ (by simp) _ [] k rfl (fun D hD => ?_) (by simp; omega)
      simp only [List.mem_cons, List.not_mem_nil, or_false] at hD
      rcases hD with rfl | rfl | rfl | rfl
      · exact dress_one
      · exact d1
      · exact d2
      · exact dress_three
  · rw [if_neg c]; exact jt L
theorem TokenDress : wisplaw09_TokenDress.Pure := by
  intro a0 a1 w0 w1
  refine ⟨5400000, ?_⟩
  unfold wisplaw09_TokenDress.f
  by_cases c : (a0.size : Int) > 20000
  · rw [if_pos c, if_pos (by decide), if_pos (by omega)]
    exact dress_j0 _ _ _ (by omega)
  · rw [if_neg c]
    exact dress_j0 _ _ _ (by omega)
end Go.Proofs.Ytembdahclmffjaa.Pure
