/- Words that are joined by a dress (blanks, or a remark) scan to the same words. -/
import Derived.Test.YtembdahclmffjaaTf
namespace Go.Proofs.Ytembdahclmffjaa.Pure
set_option linter.unusedSimpArgs false
set_option linter.unusedVariables false
open Go.RowKit Go.Proofs.Ytembdahclmffjaa.P Go.Proofs.YtembdahclmffjaaW.PrintWords Go.Proofs.YtembdahclmffjaaW.PrintLast Go.Proofs.YtembdahclmffjaaW.PrintMore
theorem dropc {S : ByteArray} {p : Nat} {c : Int} {X : List Int} (h : (bytesOf S).drop p = c :: X) : p < S.size ∧ bt S (p : Int) = c ∧ (bytesOf S).drop (p + 1) = X := by
  have h1 : p < (bytesOf S).length := by
    rcases Nat.lt_or_ge p (bytesOf S).length with h1 | h1
    · exact h1
    · rw [List.drop_of_length_le h1] at h; cases h
  rw [rd_drop _ _ h1] at h
  simp only [List.cons.injEq] at h
  refine ⟨by rw [bytesOf_length] at h1; exact h1, ?_, h.2⟩
  rw [← h.1, rd_bytesOf]
theorem dropapp {S : ByteArray} {p : Nat} {A X : List Int} (h : (bytesOf S).drop p = A ++ X) : (bytesOf S).drop (p + A.length) = X := by
  rw [← List.drop_drop, h, List.drop_left]
theorem droplen {S : ByteArray} {p : Nat} {X : List Int} (hp : p ≤ S.size) (h : (bytesOf S).drop p = X) : S.size = p + X.length := by
  rw [← h, List.length_drop, bytesOf_length]; omega
theorem bytes_cut (s : ByteArray) (i e : Nat) : bytesOf (s.extract i e) = ((bytesOf s).drop i).take (e - i) := by
  unfold bytesOf
  rw [← List.map_drop, ← List.map_take]
  congr 1
  rw [ByteArray.data_extract, Array.toList_extract, List.extract_eq_take_drop]
/-- what stands behind a word -/
def Stop (Y : List Int) : Prop := Y = [] ∨ ∃ c Z, Y = c :: Z ∧ pt c = false
theorem wend_bytes {S : ByteArray} {Y : List Int} (hY : Stop Y) : ∀ (w : List Int) (d p : Nat), (bytesOf S).drop p = w ++ Y → (∀ c ∈ w, pt c = true) → d = (w ++ Y).length → wend S d p = p + w.length
  | [], d, p, h, _, hd => by
    rcases hY with rfl | ⟨c, Z, rfl, hc⟩
    · subst hd; rfl
    · subst hd
      obtain ⟨_, h2, _⟩ := dropc h
      simp only [List.nil_append, List.length_cons, wend]
      rw [h2, hc]; rfl
  | a :: w, d, p, h, hw, hd => by
    subst hd
    obtain ⟨_, h2, h3⟩ := dropc h
    have ih := wend_bytes hY w (w ++ Y).length (p + 1) h3 (fun c hc => hw c (List.mem_cons_of_mem _ hc)) rfl
    simp only [List.cons_append, List.length_cons, wend]
    rw [h2, if_pos (hw a List.mem_cons_self), ih]; omega
theorem word_bytes {S : ByteArray} {p : Nat} {w Y : List Int} (hp : p ≤ S.size) (hY : Stop Y) (h : (bytesOf S).drop p = w ++ Y) (hw : ∀ c ∈ w, pt c = true) :
    wend S (S.size - p) p = p + w.length ∧ bytesOf (wordOf S p) = w ∧ (wordOf S p).size = w.length := by
  have h1 := droplen hp h
  have h2 := wend_bytes hY w (S.size - p) p h hw (by omega)
  have h3 : bytesOf (wordOf S p) = w := by
    unfold wordOf
    rw [h2, bytes_cut, h, show p + w.length - p = w.length by omega, List.take_left]
  refine ⟨h2, h3, ?_⟩
  rw [← h3, bytesOf_length]
theorem bl_pt {c : Int} (h : bl c = true) : pt c = false := by
  unfold bl at h
  unfold pt
  simp only [Bool.or_eq_true, decide_eq_true_eq] at h
  rw [Bool.and_eq_false_iff]
  left
  simp only [decide_eq_false_iff_not]
  omega
theorem pt_bl {c : Int} (h : pt c = true) : ¬ bl c = true := fun h1 => by rw [bl_pt h1] at h; cases h
inductive Likes (R : S30 → S30 → Prop) : List S30 → List S30 → Prop
  | nil : Likes R [] []
  | cons {a b l m} : R a b → Likes R l m → Likes R (a :: l) (b :: m)
/-- what a word that was read is -/
def Good (t : S30) : Prop :=
  bytesOf t.f1 ≠ [] ∧ (∀ c ∈ bytesOf t.f1, pt c = true) ∧ bytesOf t.f1 ≠ [92] ∧ bytesOf t.f1 ≠ [40] ∧ (bytesOf t.f1).length ≤ 31 ∧
  ((t.f0 = 2 ∧ (numeral (bytesOf t.f1)).2 = 0 ∧ t.f2 = (numeral (bytesOf t.f1)).1) ∨ (t.f0 = 1 ∧ t.f2 = 0 ∧ (numeral (bytesOf t.f1)).2 ≠ 0 ∧ (numeral (bytesOf t.f1)).2 ≠ 21))
/-- the same word, whatever its place -/
def Like (t u : S30) : Prop := t.f0 = u.f0 ∧ bytesOf t.f1 = bytesOf u.f1 ∧ t.f2 = u.f2
theorem toList_92 (s : ByteArray) : s.toList = ([92] : List UInt8) ↔ bytesOf s = [92] := toList_bytes s [92]
theorem toList_40 (s : ByteArray) : s.toList = ([40] : List UInt8) ↔ bytesOf s = [40] := toList_bytes s [40]
theorem Goes_good {S : ByteArray} {p : Nat} {t : S30} {Y : List Int} (ht : Good t) (hp : p ≤ S.size) (hY : Stop Y) (h : (bytesOf S).drop p = bytesOf t.f1 ++ Y) :
    ∃ u, Like t u ∧ ∀ m T, Goes S (p + (bytesOf t.f1).length) m T → Goes S p m (u :: T) := by
  obtain ⟨g1, g2, g3, g4, g5, g6⟩ := ht
  obtain ⟨h1, h2, h3⟩ := word_bytes hp hY h g2
  obtain ⟨c, X, hc⟩ : ∃ c X, bytesOf t.f1 = c :: X := by
    cases hb : bytesOf t.f1 with
    | nil => exact absurd hb g1
    | cons c X => exact ⟨c, X, rfl⟩
  have hpc := g2 c (by rw [hc]; exact List.mem_cons_self)
  obtain ⟨k1, k2, _⟩ := dropc (by rw [h, hc]; rfl)
  have n3 : ¬ (wordOf S p).toList = ([92] : List UInt8) := fun e => g3 (by rw [← h2]; exact (toList_92 _).1 e)
  have n4 : ¬ (wordOf S p).toList = ([40] : List UInt8) := fun e => g4 (by rw [← h2]; exact (toList_40 _).1 e)
  have n5 : ¬ (wordOf S p).size > 31 := by rw [h3]; omega
  have b1 : ¬ bl (bt S (p : Int)) = true := by rw [k2]; exact pt_bl hpc
  have b2 : pt (bt S (p : Int)) = true := by rw [k2]; exact hpc
  rcases g6 with ⟨e0, e1, e2⟩ | ⟨e0, e1, e2, e3⟩
  · refine ⟨_, ?_, fun m T hG => .num k1 b1 b2 n3 n4 n5 (by rw [h2]; exact e1) (by rw [h1]; exact hG)⟩
    exact ⟨e0, h2.symm, by rw [e2, h2]⟩
  · refine ⟨_, ?_, fun m T hG => .word k1 b1 b2 n3 n4 n5 (by rw [h2]; exact e2) (by rw [h2]; exact e3) (by rw [h1]; exact hG)⟩
    exact ⟨e0, h2.symm, e1⟩
theorem wend_pt (S : ByteArray) : ∀ (d i j : Nat), i ≤ j → j < wend S d i → pt (bt S (j : Int)) = true
  | 0, i, j, h1, h2 => by simp only [wend] at h2; omega
  | d + 1, i, j, h1, h2 => by
    simp only [wend] at h2
    by_cases c : pt (bt S (i : Int)) = true
    · rw [if_pos c] at h2
      rcases Nat.lt_or_ge i j with h | h
      · exact wend_pt S d (i + 1) j h h2
      · obtain rfl : j = i := by omega
        exact c
    · rw [if_neg c] at h2; omega
theorem word_pt (S : ByteArray) (p : Nat) : ∀ c ∈ bytesOf (wordOf S p), pt c = true := by
  intro c hc
  obtain ⟨j, hj, rfl⟩ := List.mem_iff_getElem.1 hc
  have hl : (wordOf S p).size = wend S (S.size - p) p - p := by
    unfold wordOf
    rw [ByteArray.size_extract]
    have := (wend_le S (S.size - p) p).2
    have := (wend_le S (S.size - p) p).1
    omega
  rw [bytesOf_length, hl] at hj
  have h1 := wend_pt S (S.size - p) p (p + j) (by omega) (by omega)
  have h2 : (bytesOf (wordOf S p))[j]'(by rw [bytesOf_length, hl]; exact hj) = bt S ((p + j : Nat) : Int) := by
    have h3 : (bytesOf (wordOf S p))[j]? = some (bt S ((p + j : Nat) : Int)) := by
      unfold wordOf
      have hb := (wend_le S (S.size - p) p).2
      rw [bytes_cut, List.getElem?_take_of_lt hj, List.getElem?_drop, ← rd_bytesOf]
      unfold rd
      rw [Int.toNat_natCast, List.getD_eq_getElem?_getD, List.getElem?_eq_getElem (by rw [bytesOf_length]; omega)]
      rfl
    rw [List.getElem?_eq_getElem (by rw [bytesOf_length, hl]; exact hj)] at h3
    exact Option.some.inj h3
  rw [h2]; exact h1
theorem M_good (s : ByteArray) : ∀ (d i : Nat), ∀ t ∈ (M s d i).1, Good t
  | 0, i, t, h => by simp [M] at h
  | d + 1, i, t, h => by
    have ih := M_good s d
    simp only [M] at h
    by_cases c0 : s.size ≤ i
    · rw [if_pos c0] at h; simp at h
    · rw [if_neg c0] at h
      by_cases c1 : bl (bt s (i : Int)) = true
      · rw [if_pos c1] at h; exact ih _ t h
      · rw [if_neg c1] at h
        by_cases c2 : pt (bt s (i : Int)) = true
        · rw [if_pos c2] at h
          by_cases c3 : (wordOf s i).toList = ([92] : List UInt8)
          · rw [if_pos c3] at h
            split at h
            · simp at h
            · exact ih _ t h
          · rw [if_neg c3] at h
            by_cases c4 : (wordOf s i).toList = ([40] : List UInt8)
            · rw [if_pos c4] at h
              split at h
              · simp at h
              · exact ih _ t h
            · rw [if_neg c4] at h
              by_cases c5 : (wordOf s i).size > 31
              · rw [if_pos c5] at h; simp at h
              · rw [if_neg c5] at h
                have g1 : bytesOf (wordOf s i) ≠ [] := fun e => by
                  have h1 : (wordOf s i).size = 0 := by rw [← bytesOf_length, e]; rfl
                  have g : i < wend s (s.size - i) i := by
                    obtain ⟨q, hq⟩ : ∃ q, s.size - i = q + 1 := ⟨s.size - i - 1, by omega⟩
                    rw [hq]; exact wend_gt c2
                  unfold wordOf at h1
                  rw [ByteArray.size_extract] at h1
                  omega
                have g3 : bytesOf (wordOf s i) ≠ [92] := fun e => c3 ((toList_92 _).2 e)
                have g4 : bytesOf (wordOf s i) ≠ [40] := fun e => c4 ((toList_40 _).2 e)
                have g5 : (bytesOf (wordOf s i)).length ≤ 31 := by rw [bytesOf_length]; omega
                by_cases c6 : (numeral (bytesOf (wordOf s i))).2 = 0
                · rw [if_pos c6] at h
                  rcases List.mem_cons.1 h with rfl | h
                  · exact ⟨g1, word_pt s i, g3, g4, g5, .inl ⟨rfl, c6, rfl⟩⟩
                  · exact ih _ t h
                · rw [if_neg c6] at h
                  by_cases c7 : (numeral (bytesOf (wordOf s i))).2 = 21
                  · rw [if_pos c7] at h; simp at h
                  · rw [if_neg c7] at h
                    rcases List.mem_cons.1 h with rfl | h
                    · exact ⟨g1, word_pt s i, g3, g4, g5, .inr ⟨rfl, rfl, c6, c7⟩⟩
                    · exact ih _ t h
        · rw [if_neg c2] at h; simp at h
/-- a dress: it begins with a blank, and the scan goes over it without a word -/
def Tr (D : List Int) : Prop := (∃ c X, D = c :: X ∧ bl c = true) ∧ ∀ (S : ByteArray) (p : Nat) (Y : List Int), p ≤ S.size → (bytesOf S).drop p = D ++ Y → Goes S p (p + D.length) []
theorem Goes_blanks {S : ByteArray} : ∀ (D : List Int) (p : Nat) (Y : List Int), (∀ c ∈ D, bl c = true) → (bytesOf S).drop p = D ++ Y → Goes S p (p + D.length) []
  | [], p, Y, _, _ => .refl p
  | c :: D, p, Y, hb, h => by
    obtain ⟨h1, h2, h3⟩ := dropc h
    have ih := Goes_blanks D (p + 1) Y (fun c hc => hb c (List.mem_cons_of_mem _ hc)) h3
    rw [show p + 1 + D.length = p + (c :: D).length by simp only [List.length_cons]; omega] at ih
    exact .blank h1 (by rw [h2]; exact hb c List.mem_cons_self) ih
theorem Tr_blanks {c : Int} {X : List Int} (h : ∀ x ∈ c :: X, bl x = true) : Tr (c :: X) := ⟨⟨c, X, rfl, h c List.mem_cons_self⟩, fun S p Y _ hd => Goes_blanks _ p Y h hd⟩
theorem first_bytes {S : ByteArray} {e : Nat} {X Y : List Int} {c : UInt8} (he : e ≤ S.size) (h : (bytesOf S).drop e = X ++ (c.toNat : Int) :: Y) (hX : ∀ x ∈ X, x ≠ (c.toNat : Int)) : firstIdx (S.extract e S.size) c = (X.length : Int) := by
  have hs := droplen he h
  have hat : ∀ q : Nat, bt (S.extract e S.size) (q : Int) = rd (X ++ (c.toNat : Int) :: Y) (q : Int) := fun q => by
    rw [← rd_bytesOf, bytes_extract, h]
  refine firstIdx_some (by rw [ByteArray.size_extract]; rw [List.length_append, List.length_cons] at hs; omega) ?_ (fun q hq => ?_)
  · rw [hat, rd_app_r]
  · rw [hat]
    have : rd (X ++ (c.toNat : Int) :: Y) (q : Int) = X[q] := by
      unfold rd
      rw [Int.toNat_natCast, List.getD_eq_getElem?_getD, List.getElem?_append_left hq, List.getElem?_eq_getElem hq]; rfl
    rw [this]
    exact hX _ (List.getElem_mem hq)
/-- a blank, a word of one sign, a blank, and what does not end it too early -/
theorem Tr_paren {b : Int} (hb : bl b = true) {X : List Int} (hX : ∀ x ∈ X, x ≠ 41) : Tr (b :: 40 :: 32 :: (X ++ [41])) := by
  refine ⟨⟨b, _, rfl, hb⟩, fun S p Y hp hd => ?_⟩
  obtain ⟨h1, h2, h3⟩ := dropc hd
  have hw := word_bytes (S := S) (p := p + 1) (w := [40]) (Y := 32 :: (X ++ [41]) ++ Y) (by omega) (.inr ⟨32, _, rfl, by decide⟩) (by rw [h3]; rfl) (fun c hc => by rw [List.mem_singleton.1 hc]; decide)
  obtain ⟨k1, k2, k3⟩ := hw
  obtain ⟨e1, e2, e3⟩ := dropc h3
  simp only [List.length_singleton] at k1
  have hf := first_bytes (S := S) (e := p + 1 + 1) (X := 32 :: X) (Y := Y) (c := 41) (by omega) (by rw [e3]; show _ = 32 :: X ++ 41 :: Y; simp) (fun x hx => by
    rcases List.mem_cons.1 hx with rfl | hx
    · decide
    · exact hX x hx)
  refine .blank h1 (by rw [h2]; exact hb) (.paren (n := (32 :: X).length) e1 (by rw [e2]; decide) (by rw [e2]; decide) (fun e => ?_) ((toList_40 _).2 k2) (by rw [k1]; exact hf) ?_)
  · rw [(toList_92 _).1 e] at k2; cases k2
  · rw [k1, show p + 1 + 1 + (32 :: X).length + 1 = p + (b :: 40 :: 32 :: (X ++ [41])).length by simp only [List.length_cons, List.length_append, List.length_nil]; omega]
    exact .refl _
theorem Tr_line {b : Int} (hb : bl b = true) {X : List Int} (hX : ∀ x ∈ X, x ≠ 10) : Tr (b :: 92 :: 32 :: (X ++ [10])) := by
  refine ⟨⟨b, _, rfl, hb⟩, fun S p Y hp hd => ?_⟩
  obtain ⟨h1, h2, h3⟩ := dropc hd
  have hw := word_bytes (S := S) (p := p + 1) (w := [92]) (Y := 32 :: (X ++ [10]) ++ Y) (by omega) (.inr ⟨32, _, rfl, by decide⟩) (by rw [h3]; rfl) (fun c hc => by rw [List.mem_singleton.1 hc]; decide)
  obtain ⟨k1, k2, k3⟩ := hw
  obtain ⟨e1, e2, e3⟩ := dropc h3
  simp only [List.length_singleton] at k1
  have hf := first_bytes (S := S) (e := p + 1 + 1) (X := 32 :: X) (Y := Y) (c := 10) (by omega) (by rw [e3]; show _ = 32 :: X ++ 10 :: Y; simp) (fun x hx => by
    rcases List.mem_cons.1 hx with rfl | hx
    · decide
    · exact hX x hx)
  refine .blank h1 (by rw [h2]; exact hb) (.line (n := (32 :: X).length) e1 (by rw [e2]; decide) (by rw [e2]; decide) ((toList_92 _).2 k2) (by rw [k1]; exact hf) ?_)
  rw [k1, show p + 1 + 1 + (32 :: X).length + 1 = p + (b :: 92 :: 32 :: (X ++ [10])).length by simp only [List.length_cons, List.length_append, List.length_nil]; omega]
  exact .refl _
/-- words with a dress between each two -/
def join (D : List Int) : List (List Int) → List Int
  | [] => []
  | [w] => w
  | w :: v :: ws => w ++ (D ++ join D (v :: ws))
theorem join_snoc (D : List Int) : ∀ (ws : List (List Int)) (w : List Int), ws ≠ [] → join D (ws ++ [w]) = join D ws ++ (D ++ w)
  | [], w, h => absurd rfl h
  | [v], w, _ => rfl
  | v :: u :: ws, w, _ => by
    have ih := join_snoc D (u :: ws) w (by simp)
    rw [List.cons_append, List.cons_append] at *
    simp only [join]
    rw [ih]
    simp [List.append_assoc]
theorem Goes.trans' {s : ByteArray} {i m p : Nat} {T U : List S30} (h : Goes s i m T) (g : Goes s m p U) : Goes s i p (T ++ U) := by
  induction h with
  | refl i => exact g
  | blank h1 h2 h3 ih => exact .blank h1 h2 (ih g)
  | line h1 h2 h3 h4 h5 h6 ih => exact .line h1 h2 h3 h4 h5 (ih g)
  | paren h1 h2 h3 h4 h4' h5 h6 ih => exact .paren h1 h2 h3 h4 h4' h5 (ih g)
  | num h1 h2 h3 h4 h4' h5 h6 h7 ih => exact .num h1 h2 h3 h4 h4' h5 h6 (ih g)
  | word h1 h2 h3 h4 h4' h5 h6 h6' h7 ih => exact .word h1 h2 h3 h4 h4' h5 h6 h6' (ih g)
theorem dress_goes {D : List Int} (hD : Tr D) {S : ByteArray} : ∀ (L : List S30) (p : Nat), (∀ t ∈ L, Good t) → p ≤ S.size → (bytesOf S).drop p = join D (L.map fun t => bytesOf t.f1) → ∃ T, Goes S p S.size T ∧ Likes Like L T
  | [], p, _, hp, h => by
    have := droplen hp h
    have hps : p = S.size := by simp [join] at this; omega
    exact ⟨[], by rw [hps]; exact .refl _, .nil⟩
  | [t], p, hg, hp, h => by
    have h' : (bytesOf S).drop p = bytesOf t.f1 ++ [] := by rw [h]; simp [join]
    obtain ⟨u, hl, hG⟩ := Goes_good (hg t List.mem_cons_self) hp (.inl rfl) h'
    have hs := droplen hp h'
    rw [List.append_nil] at hs
    exact ⟨[u], hG _ _ (by rw [← hs]; exact .refl _), .cons hl .nil⟩
  | t :: v :: L, p, hg, hp, h => by
    have h' : (bytesOf S).drop p = bytesOf t.f1 ++ (D ++ join D ((v :: L).map fun t => bytesOf t.f1)) := h
    obtain ⟨⟨c, X, hc, hb⟩, hT⟩ := hD
    obtain ⟨u, hl, hG⟩ := Goes_good (hg t List.mem_cons_self) hp (.inr ⟨c, _, by rw [hc]; rfl, bl_pt hb⟩) h'
    have hs := droplen hp h'
    rw [List.length_append] at hs
    have h1 := dropapp h'
    have g1 := hT S _ _ (by omega) h1
    have h2 := dropapp h1
    have hs2 := droplen (by omega) h1
    rw [List.length_append] at hs2
    obtain ⟨T, hT2, hF⟩ := dress_goes ⟨⟨c, X, hc, hb⟩, hT⟩ (v :: L) _ (fun t ht => hg t (List.mem_cons_of_mem _ ht)) (by omega) h2
    exact ⟨u :: T, hG _ _ (g1.trans' hT2), .cons hl hF⟩
theorem dress_scan {D : List Int} (hD : Tr D) {S : ByteArray} {L : List S30} (hg : ∀ t ∈ L, Good t) (h : bytesOf S = join D (L.map fun t => bytesOf t.f1)) (hz : S.size ≤ 65536) (k : Nat) (hk : 5000000 < k) :
    ∃ T, token_Scan.f k S = some (T, 0, 0, 0) ∧ Likes Like L T := by
  obtain ⟨T, hG, hF⟩ := dress_goes hD L 0 hg (by omega) (by rw [List.drop_zero]; exact h)
  refine ⟨T, ?_, hF⟩
  have hs : S.extract 0 S.size = S := by
    apply ByteArray.ext
    rw [ByteArray.data_extract, ByteArray.size_data.symm, Array.extract_size]
  have hM := Goes_head hG (Nat.le_refl _) S.size (by omega)
  rw [hs] at hM
  rw [Scan_eq _ k hk]
  unfold scanA
  rw [if_neg (by omega), hM]
  simp [fin1]
end Go.Proofs.Ytembdahclmffjaa.Pure
