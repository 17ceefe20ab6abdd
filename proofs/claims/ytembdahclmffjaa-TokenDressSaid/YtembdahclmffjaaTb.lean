/- What token.Scan answers, by a plain function of the text. -/
import Derived.Test.YtembdahclmffjaaTa
import Derived.Test.YtembdahclmffjaaPx7
namespace Go.Proofs.Ytembdahclmffjaa.Pure
set_option linter.unusedSimpArgs false
set_option linter.unusedVariables false
open Go.RowKit Go.Proofs.Ytembdahclmffjaa.P Go.Proofs.YtembdahclmffjaaW.PrintWords Go.Proofs.YtembdahclmffjaaW.PrintLast Go.Proofs.YtembdahclmffjaaW.PrintMore
def bl (c : Int) : Bool := decide (c = 32) || decide (c = 10) || decide (c = 9) || decide (c = 13)
def pt (c : Int) : Bool := decide (33 ≤ c) && decide (c ≤ 126)
theorem blank_eq (c : Int) : token_blank.f c = some (bl c) := by
  unfold token_blank.f bl
  by_cases h1 : c = 32
  · simp [h1]
  · by_cases h2 : c = 10
    · simp [h2]
    · by_cases h3 : c = 9
      · simp [h3]
      · by_cases h4 : c = 13 <;> simp [h1, h2, h3, h4]
theorem part_eq (c : Int) : token_part.f c = some (pt c) := by
  unfold token_part.f pt
  by_cases h1 : 33 ≤ c
  · simp [h1]
  · simp [h1]
/-- where the word ends -/
def wend (s : ByteArray) : Nat → Nat → Nat
  | 0, i => i
  | d + 1, i => if pt (bt s (i : Int)) = true then wend s d (i + 1) else i
theorem wend_le (s : ByteArray) : ∀ (d i : Nat), i ≤ wend s d i ∧ wend s d i ≤ i + d
  | 0, i => by simp [wend]
  | d + 1, i => by
    have h := wend_le s d (i + 1)
    simp only [wend]
    split <;> omega
theorem wend_gt {s : ByteArray} {d i : Nat} (h : pt (bt s (i : Int)) = true) : i < wend s (d + 1) i := by
  have := wend_le s d (i + 1)
  simp only [wend, h, if_true]; omega
theorem firstIdx_bd (s : ByteArray) (c : UInt8) : firstIdx s c = -1 ∨ ∃ i : Nat, firstIdx s c = i ∧ i < s.size := by
  unfold firstIdx
  split
  · rename_i i h
    right
    refine ⟨i, rfl, ?_⟩
    have := List.mem_of_find?_eq_some h
    simpa using this
  · left; rfl
abbrev Er := Option (Nat × Int)
abbrev wordOf (s : ByteArray) (i : Nat) : ByteArray := s.extract i (wend s (s.size - i) i)
/-- the words from i on, and the first error -/
def M (s : ByteArray) : Nat → Nat → List S30 × Er
  | 0, _ => ([], none)
  | d + 1, i =>
    if s.size ≤ i then ([], none)
    else if bl (bt s (i : Int)) = true then M s d (i + 1)
    else if pt (bt s (i : Int)) = true then
      if (wordOf s i).toList = ([92] : List UInt8) then
        (if firstIdx (s.extract (wend s (s.size - i) i) s.size) 10 < 0 then ([], none) else M s d (wend s (s.size - i) i + (firstIdx (s.extract (wend s (s.size - i) i) s.size) 10).toNat + 1))
      else if (wordOf s i).toList = ([40] : List UInt8) then
        (if firstIdx (s.extract (wend s (s.size - i) i) s.size) 41 < 0 then ([], some (i, 92)) else M s d (wend s (s.size - i) i + (firstIdx (s.extract (wend s (s.size - i) i) s.size) 41).toNat + 1))
      else if (wordOf s i).size > 31 then ([], some (i, 93))
      else if (numeral (bytesOf (wordOf s i))).2 = 0 then (⟨2, wordOf s i, (numeral (bytesOf (wordOf s i))).1, ⟨(pos s i).1, (pos s i).2⟩⟩ :: (M s d (wend s (s.size - i) i)).1, (M s d (wend s (s.size - i) i)).2)
      else if (numeral (bytesOf (wordOf s i))).2 = 21 then ([], some (i, 21))
      else (⟨1, wordOf s i, 0, ⟨(pos s i).1, (pos s i).2⟩⟩ :: (M s d (wend s (s.size - i) i)).1, (M s d (wend s (s.size - i) i)).2)
    else ([], some (i, 91))
/-- the answer, where acc has been read -/
def fin1 (s : ByteArray) (acc : List S30) (r : List S30 × Er) : List S30 × Int × Int × Int :=
  match r.2 with
  | none => (acc ++ r.1, 0, 0, 0)
  | some (o, e) => ([], (pos s o).1, (pos s o).2, e)
def setP (t : S30) (p : S24) : S30 := ⟨t.f0, t.f1, t.f2, p⟩
theorem place_eq (s : ByteArray) (hz : s.size ≤ 2000000) (n : Nat) (hn : n ≤ s.size) (k : Nat) (hk : 4100000 < k) : token_place.f k s (n : Int) = some ((pos s n).1, (pos s n).2) := by
  unfold token_place.f
  rw [Places_eq s hz _ (by simp) k hk]
  simp only [List.map_cons, List.map_nil, Option.bind_some, List.length_cons, List.length_nil]
  rw [if_pos (by simp)]
  simp [rd_T24, PS_at s n hn]
theorem l2_eq (P : List S24) (hP : P.length ≤ 1000000) : ∀ (B A : List S30) (k : Nat), A.length + B.length = P.length → B.length < k →
    token_Scan.l2 k (A ++ B) P (P.length : Int) (A.length : Int) = some (A ++ List.zipWith setP B (P.drop A.length), 0, 0, 0)
  | [], A, k, h, hk => by
    obtain ⟨k, rfl⟩ : ∃ q, k = q + 1 := ⟨k - 1, by omega⟩
    simp only [List.length_nil, Nat.add_zero] at h
    rw [token_Scan.l2, if_neg (by omega)]; simp
  | b :: B, A, k, h, hk => by
    simp only [List.length_cons] at h hk
    obtain ⟨k, rfl⟩ : ∃ q, k = q + 1 := ⟨k - 1, by omega⟩
    have hl : A.length < P.length := by omega
    have e1 : rd_T30 (A ++ b :: B) (A.length : Int) = b := by simp [rd_T30, rdOf, List.getD_eq_getElem?_getD]
    have e2 : ∀ x, (A ++ b :: B).set ((A.length : Int)).toNat x = (A ++ [x]) ++ B := fun x => by simp
    have e3 : P.drop A.length = rd_T24 P (A.length : Int) :: P.drop (A.length + 1) := by
      rw [List.drop_eq_getElem_cons hl]; simp [rd_T24, rdOf, List.getD_eq_getElem?_getD, hl]
    have ih := l2_eq P hP B (A ++ [setP b (rd_T24 P (A.length : Int))]) k (by simp; omega) (by omega)
    rw [token_Scan.l2, if_pos (by omega), if_pos (by omega), if_pos (by omega), if_pos (by simp; omega), e1, e2, wrap64_u (by omega) (by omega)]
    rw [List.length_append, List.length_singleton] at ih
    rw [show ((A.length : Int) + 1) = ((A.length + 1 : Nat) : Int) by omega]
    refine Eq.trans ih ?_
    rw [e3, List.zipWith_cons_cons, List.append_assoc]; rfl
/-- what has been read, with its places -/
def glue (s : ByteArray) (out : List S30) (offs : List Int) : List S30 := List.zipWith (fun t o => setP t (PS s o)) out offs
theorem j3_eq (s : ByteArray) (hz : s.size ≤ 2000000) (out : List S30) (offs : List Int) (h : out.length = offs.length) (ho : offs.length ≤ 1000000) (k : Nat) (hk : 4100001 < k) :
    token_Scan.j3 k s out offs = some (glue s out offs, 0, 0, 0) := by
  obtain ⟨k, rfl⟩ : ∃ q, k = q + 1 := ⟨k - 1, by omega⟩
  rw [token_Scan.j3, Places_eq s hz _ (by omega) k (by omega), Option.bind_some]
  have := l2_eq (offs.map (PS s)) (by simpa using ho) out [] k (by simpa using h) (by omega)
  simp only [List.nil_append, List.length_nil, List.drop_zero] at this
  rw [show ((0 : Nat) : Int) = 0 from rfl] at this
  rw [this, List.zipWith_map_right]; rfl
theorem l1_eq (s : ByteArray) (hz : s.size ≤ 2000000) (out : List S30) (offs : List Int) (x7 : Int) : ∀ (d i k : Nat), i + d = s.size → d + 1 < k →
    ∃ k', k = k' + (wend s d i - i) + 1 ∧ token_Scan.l1 k s out offs x7 (i : Int) = token_Scan.j2 k' s out offs x7 ((wend s d i : Nat) : Int)
  | 0, i, k, h, hk => by
    obtain ⟨k, rfl⟩ : ∃ q, k = q + 1 := ⟨k - 1, by omega⟩
    refine ⟨k, by simp [wend], ?_⟩
    rw [token_Scan.l1, if_neg (by omega)]; rfl
  | d + 1, i, k, h, hk => by
    obtain ⟨k, rfl⟩ : ∃ q, k = q + 1 := ⟨k - 1, by omega⟩
    rw [token_Scan.l1, if_pos (by omega), if_pos (by omega), part_eq, Option.bind_some]
    simp only [wend]
    by_cases c : pt (bt s (i : Int)) = true
    · rw [if_pos c, if_pos c, wrap64_u (by omega) (by omega), show (i : Int) + 1 = ((i + 1 : Nat) : Int) by omega]
      obtain ⟨k', h1, h2⟩ := l1_eq s hz out offs x7 d (i + 1) k (by omega) (by omega)
      have := wend_le s d (i + 1)
      exact ⟨k', by omega, h2⟩
    · rw [if_neg c, if_neg c]
      exact ⟨k, by omega, rfl⟩
theorem glue_snoc (s : ByteArray) (out : List S30) (offs : List Int) (h : out.length = offs.length) (t : S30) (n : Nat) (hn : n ≤ s.size) :
    glue s (out ++ [t]) (offs ++ [(n : Int)]) = glue s out offs ++ [setP t ⟨(pos s n).1, (pos s n).2⟩] := by
  unfold glue
  rw [List.zipWith_append h]
  simp [PS_at s n hn]
theorem fin1_cons (s : ByteArray) (acc : List S30) (t : S30) (r : List S30 × Er) : fin1 s acc (t :: r.1, r.2) = fin1 s (acc ++ [t]) r := by
  unfold fin1
  split
  · rename_i h; simp at h; simp [h]
  · rename_i o e h; simp at h; simp [h]
set_option maxHeartbeats 2000000 in
theorem l0_eq (s : ByteArray) (hz : s.size ≤ 65536) : ∀ (d i : Nat) (out : List S30) (offs : List Int) (k : Nat), s.size ≤ i + d → i ≤ s.size → out.length = offs.length → offs.length ≤ i → 4 * (s.size - i) + 4200000 < k →
    token_Scan.l0 k s out offs (i : Int) = some (fin1 s (glue s out offs) (M s d i))
  | 0, i, out, offs, k, hd, hi, hl, ho, hk => by
    obtain ⟨k, rfl⟩ : ∃ q, k = q + 1 := ⟨k - 1, by omega⟩
    rw [token_Scan.l0, if_neg (by omega), j3_eq s (by omega) out offs hl (by omega) k (by omega)]
    simp [M, fin1]
  | d + 1, i, out, offs, k, hd, hi, hl, ho, hk => by
    obtain ⟨k, rfl⟩ : ∃ q, k = q + 1 := ⟨k - 1, by omega⟩
    rw [token_Scan.l0]
    simp only [M]
    by_cases c0 : s.size ≤ i
    · rw [if_neg (by omega), if_pos c0, j3_eq s (by omega) out offs hl (by omega) k (by omega)]
      simp [fin1]
    · rw [if_pos (by omega), if_pos (by omega), if_neg c0, blank_eq, Option.bind_some]
      by_cases c1 : bl (bt s (i : Int)) = true
      · rw [if_pos c1, if_pos c1, wrap64_u (by omega) (by omega), show (i : Int) + 1 = ((i + 1 : Nat) : Int) by omega]
        exact l0_eq s hz d (i + 1) out offs k (by omega) (by omega) hl (by omega) (by omega)
      · rw [if_neg c1, if_neg c1, part_eq, Option.bind_some]
        by_cases c2 : pt (bt s (i : Int)) = true
        · rw [if_pos c2, if_pos c2]
          obtain ⟨k1, hk1, e1⟩ := l1_eq s (by omega) out offs (i : Int) (s.size - i) i k (by omega) (by omega)
          rw [e1]
          have g1 : i < wend s (s.size - i) i := by
            obtain ⟨q, hq⟩ : ∃ q, s.size - i = q + 1 := ⟨s.size - i - 1, by omega⟩
            rw [hq]; exact wend_gt c2
          have g2 := (wend_le s (s.size - i) i).2
          unfold wordOf
          obtain ⟨e, he⟩ : ∃ e, wend s (s.size - i) i = e := ⟨_, rfl⟩
          rw [he] at g1 g2 hk1 ⊢
          obtain ⟨k, rfl⟩ : ∃ q, k1 = q + 1 := ⟨k1 - 1, by omega⟩
          rw [token_Scan.j2, if_pos (by omega), if_pos (by omega), if_pos (by omega), Int.toNat_natCast, Int.toNat_natCast]
          obtain ⟨wd, hwd⟩ : ∃ wd, s.extract i e = wd := ⟨_, rfl⟩
          have hws : wd.size ≤ s.size := by rw [← hwd, ByteArray.size_extract]; omega
          rw [hwd]
          by_cases c3 : wd.toList = ([92] : List UInt8)
          · rw [if_pos c3, if_pos c3, if_pos (by omega)]
            simp only [strings_IndexByte.f, Option.bind_some]
            rw [show ((10 : Int).toNat.toUInt8) = (10 : UInt8) from rfl]
            rcases firstIdx_bd (s.extract e s.size) 10 with h | ⟨j, h, hj⟩
            · rw [h, if_pos (by omega), if_pos (by omega), j3_eq s (by omega) out offs hl (by omega) k (by omega)]
              simp [fin1]
            · have hj2 : j < s.size - e := by rw [ByteArray.size_extract] at hj; omega
              rw [h, if_neg (by omega), if_neg (by omega), Int.toNat_natCast, wrap64_u (x := (e : Int) + (j : Int)) (by omega) (by omega), wrap64_u (by omega) (by omega), show (e : Int) + (j : Int) + 1 = ((e + j + 1 : Nat) : Int) by omega]
              exact l0_eq s hz d (e + j + 1) out offs k (by omega) (by omega) hl (by omega) (by omega)
          · rw [if_neg c3, if_neg c3]
            by_cases c4 : wd.toList = ([40] : List UInt8)
            · rw [if_pos c4, if_pos c4, if_pos (by omega)]
              simp only [strings_IndexByte.f, Option.bind_some]
              rw [show ((41 : Int).toNat.toUInt8) = (41 : UInt8) from rfl]
              rcases firstIdx_bd (s.extract e s.size) 41 with h | ⟨j, h, hj⟩
              · rw [h, if_pos (by omega), if_pos (by omega), place_eq s (by omega) i hi k (by omega)]
                simp [fin1]
              · have hj2 : j < s.size - e := by rw [ByteArray.size_extract] at hj; omega
                rw [h, if_neg (by omega), if_neg (by omega), Int.toNat_natCast, wrap64_u (x := (e : Int) + (j : Int)) (by omega) (by omega), wrap64_u (by omega) (by omega), show (e : Int) + (j : Int) + 1 = ((e + j + 1 : Nat) : Int) by omega]
                exact l0_eq s hz d (e + j + 1) out offs k (by omega) (by omega) hl (by omega) (by omega)
            · rw [if_neg c4, if_neg c4]
              by_cases c5 : wd.size > 31
              · rw [if_pos (by omega), if_pos c5, place_eq s (by omega) i hi k (by omega)]
                simp [fin1]
              · rw [if_neg (by omega), if_neg c5, strings_Clone.f, if_pos (by omega), Option.bind_some, Numeral_eq wd (by omega) k (by omega), Option.bind_some]
                have nx := fun (t : S30) => l0_eq s hz d e (out ++ [t]) (offs ++ [(i : Int)]) k (by omega) (by omega) (by simp [hl]) (by simp; omega) (by omega)
                by_cases c6 : (numeral (bytesOf wd)).2 = 0
                · rw [if_pos c6, if_pos c6, if_pos (by omega), if_pos (by omega), nx, glue_snoc s out offs hl _ i hi, fin1_cons]; rfl
                · rw [if_neg c6, if_neg c6]
                  by_cases c7 : (numeral (bytesOf wd)).2 = 21
                  · rw [if_pos c7, if_pos c7, place_eq s (by omega) i hi k (by omega)]
                    simp [fin1]
                  · rw [if_neg c7, if_neg c7, if_pos (by omega), if_pos (by omega), nx, glue_snoc s out offs hl _ i hi, fin1_cons]; rfl
        · rw [if_neg c2, if_neg c2, place_eq s (by omega) i hi k (by omega)]
          simp [fin1]
/-- token.Scan's answer -/
def scanA (s : ByteArray) : List S30 × Int × Int × Int := if s.size > 65536 then ([], 1, 1, 90) else fin1 s [] (M s s.size 0)
theorem Scan_eq (s : ByteArray) (k : Nat) (hk : 5000000 < k) : token_Scan.f k s = some (scanA s) := by
  unfold token_Scan.f scanA
  by_cases c : s.size > 65536
  · rw [if_pos (by omega), if_pos c]
  · rw [if_neg (by omega), if_neg c]
    have := l0_eq s (by omega) s.size 0 [] [] k (by omega) (by omega) rfl (by simp) (by omega)
    rw [show ((0 : Nat) : Int) = 0 from rfl] at this
    exact this
end Go.Proofs.Ytembdahclmffjaa.Pure
