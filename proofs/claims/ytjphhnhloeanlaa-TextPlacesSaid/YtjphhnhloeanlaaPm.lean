/- Places of offsets, plainly: the program's and the document's are the places by counting. -/
import Derived.Test.YtjphhnhloeanlaaPx5
import Derived.Test.YtjphhnhloeanlaaPlaces
namespace Go.Proofs.Ytjphhnhloeanlaa.Pure
set_option linter.unusedSimpArgs false
set_option linter.unusedVariables false
open Go.RowKit Go.Proofs.Ytjphhnhloeanlaa.P Go.Proofs.YtjphhnhloeanlaaW.PrintWords Go.Proofs.YtjphhnhloeanlaaW.PrintLast Go.Proofs.YtjphhnhloeanlaaW.PrintMore

theorem wrap64_u {x : Int} (h0 : -4611686018427387904 ≤ x) (h1 : x ≤ 4611686018427387904) : wrap64 x = x := by unfold wrap64; omega
theorem rd_drop (L : List Int) (i : Nat) (h : i < L.length) : L.drop i = rd L i :: L.drop (i + 1) := by
  rw [List.drop_eq_getElem_cons h]
  congr 1
  simp [rd, List.getD_eq_getElem?_getD, h]
theorem rd_app_r (P : List Int) (c : Int) (R : List Int) : rd (P ++ c :: R) (P.length : Int) = c := by simp [rd, List.getD_eq_getElem?_getD]
/-! ### the search -/
theorem search_loop (L : List Int) (x : Int) (hn : L.length ≤ 10000) (p : Nat) (hp : p ≤ L.length) (hA : ∀ j : Nat, j < p → rd L j < x) (hB : ∀ j : Nat, p ≤ j → j < L.length → x ≤ rd L j) (d : Nat) :
    ∀ (k lo hi : Nat), lo ≤ p → p ≤ hi → hi ≤ L.length → hi - lo ≤ d → d + 1 < k → slices_BinarySearch_int_int.l0 k L x L.length lo hi = some ((p : Int), decide (p < L.length ∧ rd L p = x)) := by
  induction d with
  | zero =>
    intro k lo hi h1 h2 h3 h4 hk
    obtain ⟨k, rfl⟩ : ∃ q, k = q + 1 := ⟨k - 1, by omega⟩
    obtain rfl : lo = p := by omega
    obtain rfl : hi = lo := by omega
    simp only [slices_BinarySearch_int_int.l0, slices_isNaN_int.f, Option.bind_some]
    rw [if_neg (by omega)]
    by_cases c : hi < L.length
    · rw [if_pos (by omega), if_pos (by omega), if_pos (by omega)]
      by_cases g : rd L hi = x
      · rw [if_pos g]; simp [c, g]
      · rw [if_neg g]; simp [g]
    · rw [if_neg (by omega)]; simp [c]
  | succ d ih =>
    intro k lo hi h1 h2 h3 h4 hk
    obtain ⟨k, rfl⟩ : ∃ q, k = q + 1 := ⟨k - 1, by omega⟩
    by_cases c : lo = hi
    · subst c
      exact ih (k + 1) lo lo h1 h2 h3 (by omega) (by omega)
    · have w : wrap64 ((IntKind.u64.wrap (wrap64 ((lo : Int) + (hi : Int)))) / 2) = (((lo + hi) / 2 : Nat) : Int) := by
        have e : IntKind.u64.wrap ((lo : Int) + hi) = (lo : Int) + hi := by simp [IntKind.wrap, IntKind.bits, IntKind.signed]; omega
        rw [wrap64_u (x := (lo : Int) + hi) (by omega) (by omega), e, wrap64_u (by omega) (by omega)]; omega
      have lt : ∀ a b : Int, cmp_Less_int.f a b = some (decide (a < b)) := fun a b => by simp [cmp_Less_int.f, cmp_isNaN_int.f]
      simp only [slices_BinarySearch_int_int.l0, w, lt, Option.bind_some]
      rw [if_pos (by omega), if_pos (by omega), if_pos (by omega)]
      by_cases g : (lo + hi) / 2 < p
      · rw [if_pos (by simpa using hA _ g), wrap64_u (x := (((lo + hi) / 2 : Nat) : Int) + 1) (by omega) (by omega)]
        exact ih k ((lo + hi) / 2 + 1) hi (by omega) h2 h3 (by omega) (by omega)
      · have hb := hB ((lo + hi) / 2) (by omega) (by omega)
        rw [if_neg (by rw [decide_eq_true_eq]; omega)]
        exact ih k lo ((lo + hi) / 2) h1 (by omega) (by omega) (by omega) (by omega)
theorem search_eq (A B : List Int) (x : Int) (hn : (A ++ B).length ≤ 10000) (hA : ∀ a ∈ A, a < x) (hB : ∀ b ∈ B, x ≤ b) (k : Nat) (hk : 10002 < k) :
    slices_BinarySearch_int_int.f k (A ++ B) x = some ((A.length : Int), decide (B.head? = some x)) := by
  unfold slices_BinarySearch_int_int.f
  have g1 : ∀ j : Nat, j < A.length → rd (A ++ B) j ∈ A := fun j hj => by
    have : rd (A ++ B) j = A[j] := by simp [rd, List.getD_eq_getElem?_getD, List.getElem?_append_left hj, hj]
    rw [this]; exact List.getElem_mem _
  have g2 : ∀ j : Nat, A.length ≤ j → j < (A ++ B).length → rd (A ++ B) j ∈ B := fun j h1 h2 => by
    have h3 : j - A.length < B.length := by rw [List.length_append] at h2; omega
    simp [rd, List.getD_eq_getElem?_getD, List.getElem?_append_right h1, h3]
  have := search_loop (A ++ B) x hn A.length (by simp) (fun j hj => hA _ (g1 j hj)) (fun j h1 h2 => hB _ (g2 j h1 h2)) (A ++ B).length k 0 (A ++ B).length (by omega) (by simp) (Nat.le_refl _) (by omega) (by omega)
  rw [show ((0 : Nat) : Int) = 0 from rfl] at this
  rw [this]
  congr 2
  cases B with
  | nil => simp
  | cons b r =>
    have e : rd (A ++ b :: r) (A.length : Int) = b := rd_app_r A b r
    rw [e]; simp
/-! ### places, by counting -/
def pos (s : ByteArray) : Nat → Int × Int
  | 0 => (1, 1)
  | n + 1 => if bt s n = 10 then ((pos s n).1 + 1, 1) else ((pos s n).1, (pos s n).2 + 1)
theorem pos_lines (s : ByteArray) (n : Nat) : ∃ C : List Int, 0 :: lnsTo s n = C ++ [(n : Int) - (pos s n).2 + 1] ∧ (C.length : Int) = (pos s n).1 - 1 ∧ (∀ c ∈ C, c < (n : Int) - (pos s n).2 + 1) ∧ 1 ≤ (pos s n).2 ∧ (pos s n).2 ≤ n + 1 := by
  induction n with
  | zero => exact ⟨[], by simp [lnsTo, pos], by simp [pos], by simp, by simp [pos], by simp [pos]⟩
  | succ n ih =>
    obtain ⟨C, h1, h2, h3, h4, h5⟩ := ih
    simp only [lnsTo, pos]
    by_cases c : bt s n = 10
    · simp only [if_pos c]
      refine ⟨C ++ [(n : Int) - (pos s n).2 + 1], ?_, ?_, ?_, by omega, by omega⟩
      · rw [← h1]; simp
        try omega
      · simp; omega
      · intro a ha
        rcases List.mem_append.1 ha with ha | ha
        · have := h3 a ha; omega
        · obtain rfl := List.mem_singleton.1 ha; omega
    · simp only [if_neg c]
      refine ⟨C, ?_, h2, ?_, by omega, by omega⟩
      · rw [List.append_nil, h1]; congr 2; omega
      · intro a ha; have := h3 a ha; omega
theorem lnsTo_more (s : ByteArray) (n d : Nat) : ∃ R : List Int, lnsTo s (n + d) = lnsTo s n ++ R ∧ ∀ r ∈ R, (n : Int) < r := by
  induction d with
  | zero => exact ⟨[], by simp, by simp⟩
  | succ d ih =>
    obtain ⟨R, h1, h2⟩ := ih
    show ∃ R : List Int, lnsTo s (n + d) ++ (if bt s ((n + d : Nat) : Int) = 10 then [((n + d : Nat) : Int) + 1] else []) = _ ∧ _
    rw [h1]
    refine ⟨R ++ (if bt s ((n + d : Nat) : Int) = 10 then [((n + d : Nat) : Int) + 1] else []), by rw [List.append_assoc], ?_⟩
    intro r hr
    rcases List.mem_append.1 hr with hr | hr
    · exact h2 r hr
    · split at hr
      · obtain rfl := List.mem_singleton.1 hr; omega
      · cases hr
def PS (s : ByteArray) (o : Int) : S25 := ⟨(pos s (mn (mx o 0) s.size).toNat).1, (pos s (mn (mx o 0) s.size).toNat).2⟩
theorem pos_bd (s : ByteArray) (n : Nat) : 1 ≤ (pos s n).1 ∧ (pos s n).1 ≤ n + 1 := by
  induction n with
  | zero => simp [pos]
  | succ n ih => simp only [pos]; split <;> simp <;> omega
theorem pos_bd2 (s : ByteArray) (n : Nat) : 1 ≤ (pos s n).2 ∧ (pos s n).2 ≤ n + 1 := by
  induction n with
  | zero => simp [pos]
  | succ n ih =>
    unfold pos
    split <;> simp <;> omega
theorem pos_step (s : ByteArray) (n : Nat) : pos s (n + 1) = if bt s (n : Int) = 10 then ((pos s n).1 + 1, 1) else ((pos s n).1, (pos s n).2 + 1) := rfl
theorem places_round (s : ByteArray) (hz : s.size ≤ 9000) (n : Nat) (hn : n ≤ s.size) (k : Nat) (hk : 10002 < k) :
    ∃ i f, slices_BinarySearch_int_int.f k (0 :: lnsTo s s.size) n = some (i, f) ∧
      (f = true → i = (pos s n).1 - 1) ∧ (f = false → i = (pos s n).1) ∧ 0 ≤ (pos s n).1 - 1 ∧ (pos s n).1 - 1 < ((0 :: lnsTo s s.size).length : Int) ∧ rd (0 :: lnsTo s s.size) ((pos s n).1 - 1) = (n : Int) - (pos s n).2 + 1 := by
  obtain ⟨C, h1, h2, h3, h4, h5⟩ := pos_lines s n
  obtain ⟨R, r1, r2⟩ := lnsTo_more s n (s.size - n)
  rw [show n + (s.size - n) = s.size by omega] at r1
  have hl := lnsTo_length s s.size
  have e0 : 0 :: lnsTo s s.size = C ++ ((n : Int) - (pos s n).2 + 1) :: R := by rw [r1, ← List.cons_append, h1, List.append_assoc]; rfl
  have e1 : rd (0 :: lnsTo s s.size) ((pos s n).1 - 1) = (n : Int) - (pos s n).2 + 1 := by rw [e0, ← h2]; exact rd_app_r C _ R
  have e2 : (pos s n).1 - 1 < ((0 :: lnsTo s s.size).length : Int) := by rw [e0, ← h2]; simp; omega
  have hlen : (0 :: lnsTo s s.size).length ≤ 10000 := by simp; omega
  by_cases c : (pos s n).2 = 1
  · have hs := search_eq C (((n : Int) - (pos s n).2 + 1) :: R) n (by rw [← e0]; exact hlen) (fun a ha => by have := h3 a ha; omega) (fun b hb => by
      rcases List.mem_cons.1 hb with rfl | hb
      · omega
      · have := r2 b hb; omega) k hk
    rw [← e0] at hs
    refine ⟨_, _, hs, fun _ => h2, fun hf => ?_, by omega, e2, e1⟩
    simp at hf; omega
  · have hs := search_eq (C ++ [(n : Int) - (pos s n).2 + 1]) R n (by rw [List.append_assoc, List.singleton_append, ← e0]; exact hlen) (fun a ha => by
      rcases List.mem_append.1 ha with ha | ha
      · have := h3 a ha; omega
      · obtain rfl := List.mem_singleton.1 ha; omega) (fun b hb => by have := r2 b hb; omega) k hk
    rw [List.append_assoc, List.singleton_append, ← e0] at hs
    refine ⟨_, _, hs, fun hf => ?_, fun _ => by simp; omega, by omega, e2, e1⟩
    exfalso
    cases R with
    | nil => simp at hf
    | cons r R' => simp at hf; have := r2 r (by simp); omega
theorem bind_at {α β : Type} {o : Option α} {a : α} {f : α → Option β} (h : o = some a) : o.bind f = f a := by rw [h]; rfl
theorem places_loop (s : ByteArray) (hz : s.size ≤ 9000) (offs : List Int) (ho : offs.length ≤ 10000) (d : Nat) : ∀ (k i : Nat) (x8 : List S25), i + d = offs.length → x8.length ≤ i → 10003 + d < k →
    text_Places.l0 k s (0 :: lnsTo s s.size) x8 offs offs.length i = some (x8 ++ (offs.drop i).map (PS s)) := by
  induction d with
  | zero =>
    intro k i x8 hi hx hk
    obtain ⟨k, rfl⟩ : ∃ q, k = q + 1 := ⟨k - 1, by omega⟩
    simp only [text_Places.l0]
    rw [if_neg (by omega), List.drop_eq_nil_of_le (by omega)]; simp
  | succ d ih =>
    intro k i x8 hi hx hk
    obtain ⟨k, rfl⟩ : ∃ q, k = q + 1 := ⟨k - 1, by omega⟩
    have c1 : (i : Int) < (offs.length : Int) := by omega
    have c2 : (0 : Int) ≤ (i : Int) := Int.natCast_nonneg i
    have c3 : x8.length < 8796093022208 := by omega
    have fin := ih k (i + 1) (x8 ++ [PS s (rd offs i)]) (by omega) (by simp; omega) (by omega)
    have fin2 : x8 ++ [PS s (rd offs i)] ++ (offs.drop (i + 1)).map (PS s) = x8 ++ (offs.drop i).map (PS s) := by rw [rd_drop offs i (by omega)]; simp
    have nxt : wrap64 ((i : Int) + 1) = ((i + 1 : Nat) : Int) := by rw [wrap64_u (by omega) (by omega)]; omega
    have hm : 0 ≤ mn (mx (rd offs i) 0) s.size ∧ mn (mx (rd offs i) 0) s.size ≤ s.size := by unfold mn mx; split <;> split <;> omega
    obtain ⟨n, hn⟩ := Int.eq_ofNat_of_zero_le hm.1
    have hn' : n ≤ s.size := by omega
    obtain ⟨j, f, hs, hf1, hf0, b0, b1, hr⟩ := places_round s hz n hn' k (by omega)
    have pb := pos_bd s n
    have pl := pos_lines s n
    have hq : 1 ≤ (pos s n).2 ∧ (pos s n).2 ≤ n + 1 := by obtain ⟨C, _, _, _, h4, h5⟩ := pl; exact ⟨h4, h5⟩
    have hP : PS s (rd offs i) = ⟨(pos s n).1, (pos s n).2⟩ := by unfold PS; rw [hn, Int.toNat_natCast]
    have wc : wrap64 (wrap64 ((n : Int) - ((n : Int) - (pos s n).2 + 1)) + 1) = (pos s n).2 := by
      rw [wrap64_u (x := (n : Int) - ((n : Int) - (pos s n).2 + 1)) (by omega) (by omega), wrap64_u (by omega) (by omega)]; omega
    have wl : wrap64 ((pos s n).1 - 1 + 1) = (pos s n).1 := by rw [wrap64_u (by omega) (by omega)]; omega
    have wl2 : wrap64 ((pos s n).1 - 1) = (pos s n).1 - 1 := wrap64_u (by omega) (by omega)
    rw [fin2, hP, ← nxt, ← wl, ← wc, ← hr] at fin
    rw [← hn] at hs
    rw [text_Places.l0]
    refine (if_pos c1).trans ((if_pos c2).trans ((if_pos c1).trans ((bind_at hs).trans ?_)))
    dsimp only
    rw [hn]
    cases f with
    | true =>
      obtain rfl := hf1 rfl
      exact (if_pos rfl).trans ((if_pos b0).trans ((if_pos b1).trans ((if_pos c3).trans fin)))
    | false =>
      obtain rfl := hf0 rfl
      refine (if_neg (by simp)).trans ?_
      rw [wl2]
      exact (if_pos b0).trans ((if_pos b1).trans ((if_pos c3).trans fin))
theorem Places_eq (s : ByteArray) (hz : s.size ≤ 9000) (offs : List Int) (ho : offs.length ≤ 10000) (k : Nat) (hk : 20010 < k) : text_Places.f k s offs = some (offs.map (PS s)) := by
  unfold text_Places.f text_lines.f
  rw [if_pos (by omega)]
  simp only [Option.bind_some]
  have := places_loop s hz offs ho offs.length k 0 [] (by omega) (by simp) (by omega)
  rw [show ((0 : Nat) : Int) = 0 from rfl] at this
  simpa using this
theorem ref_l0 (s : ByteArray) (hz : s.size ≤ 9000) (n : Nat) (hn : n ≤ s.size) : ∀ d i k, i + d = n → d < k → wispref02_Place.l0 k s (n : Int) (i : Int) (pos s i).1 (pos s i).2 = some (pos s n) := by
  intro d
  induction d with
  | zero =>
    intro i k hi hk
    obtain ⟨k, rfl⟩ : ∃ m, k = m + 1 := ⟨k - 1, by omega⟩
    obtain rfl : i = n := by omega
    simp only [wispref02_Place.l0]
    rw [if_neg (by omega)]
  | succ d ih =>
    intro i k hi hk
    obtain ⟨k, rfl⟩ : ∃ m, k = m + 1 := ⟨k - 1, by omega⟩
    have hN := ih (i + 1) k (by omega) (by omega)
    have hw : wrap64 ((i : Int) + 1) = ((i + 1 : Nat) : Int) := by unfold wrap64; omega
    have hb := pos_bd s i
    have hb2 := pos_bd2 s i
    simp only [wispref02_Place.l0, hw]
    rw [if_pos (by omega), if_pos (by omega), if_pos (by omega)]
    have hst := pos_step s i
    by_cases h : bt s (i : Int) = 10
    · rw [if_pos h]
      rw [if_pos h] at hst
      rw [hst] at hN
      have e : wrap64 ((pos s i).1 + 1) = (pos s i).1 + 1 := by unfold wrap64; omega
      rw [e]; exact hN
    · rw [if_neg h]
      rw [if_neg h] at hst
      rw [hst] at hN
      have e : wrap64 ((pos s i).2 + 1) = (pos s i).2 + 1 := by unfold wrap64; omega
      rw [e]; exact hN
theorem RefPlace_eq (s : ByteArray) (hz : s.size ≤ 9000) (o : Int) (k : Nat) (hk : 9010 < k) : (wispref02_Place.f k s o).map (fun p => (⟨p.1, p.2⟩ : S25)) = some (PS s o) := by
  obtain ⟨k, rfl⟩ : ∃ m, k = m + 2 := ⟨k - 2, by omega⟩
  unfold wispref02_Place.f PS
  have hz0 : ∀ n : Nat, n ≤ s.size → wispref02_Place.l0 k s (n : Int) 0 1 1 = some (pos s n) := fun n hn => ref_l0 s hz n hn n 0 k (by omega) (by omega)
  by_cases h1 : o < 0
  · rw [if_pos h1]
    simp only [wispref02_Place.j0, wispref02_Place.j1]
    rw [if_neg (by omega)]
    have := hz0 0 (by omega)
    rw [show ((0 : Nat) : Int) = 0 from rfl] at this
    rw [this]
    have e : (mn (mx o 0) s.size).toNat = 0 := by unfold mn mx; split <;> split <;> omega
    rw [e]; rfl
  · rw [if_neg h1]
    simp only [wispref02_Place.j0, wispref02_Place.j1]
    by_cases h2 : o > (s.size : Int)
    · rw [if_pos h2, hz0 s.size (by omega)]
      have e : (mn (mx o 0) s.size).toNat = s.size := by
        have e1 : mn (mx o 0) s.size = s.size := by unfold mn mx; (repeat' split) <;> omega
        rw [e1]; rfl
      rw [e]; rfl
    · rw [if_neg h2]
      obtain ⟨n, rfl⟩ := Int.eq_ofNat_of_zero_le (show 0 ≤ o by omega)
      have h3 := hz0 n (by omega)
      first | rw [h3] | rw [show ((n : Nat) : Int) = Int.ofNat n from rfl] at h3; rw [h3]
      have e : (mn (mx (n : Int) 0) s.size).toNat = n := by
        have e1 : mn (mx (n : Int) 0) s.size = n := by unfold mn mx; (repeat' split) <;> omega
        rw [e1]; rfl
      rw [e]; rfl
theorem ref_loop (s : ByteArray) (hz : s.size ≤ 9000) (offs : List Int) (ho : offs.length ≤ 10000) : ∀ d i k (x : List S25), i + d = offs.length → x.length ≤ i → 9010 + d + 1 < k → wispref02_Places.l0 k s offs x (i : Int) = some (x ++ (offs.drop i).map (PS s)) := by
  intro d
  induction d with
  | zero =>
    intro i k x hi hx hk
    obtain ⟨k, rfl⟩ : ∃ m, k = m + 1 := ⟨k - 1, by omega⟩
    simp only [wispref02_Places.l0]
    rw [if_neg (by omega), List.drop_of_length_le (by omega)]
    simp
  | succ d ih =>
    intro i k x hi hx hk
    obtain ⟨k, rfl⟩ : ∃ m, k = m + 1 := ⟨k - 1, by omega⟩
    have hw : wrap64 ((i : Int) + 1) = ((i + 1 : Nat) : Int) := by unfold wrap64; omega
    have hp := RefPlace_eq s hz (rd offs (i : Int)) k (by omega)
    obtain ⟨p, hp1, hp2⟩ := Option.map_eq_some_iff.1 hp
    have hN := ih (i + 1) k (x ++ [PS s (rd offs (i : Int))]) (by omega) (by simp; omega) (by omega)
    simp only [wispref02_Places.l0, hw]
    rw [if_pos (by omega), if_pos (by omega), hp1]
    show (if x.length < 8796093022208 then _ else _) = _
    rw [if_pos (by omega), hp2, hN]
    have hd : offs.drop i = rd offs (i : Int) :: offs.drop (i + 1) := by
      rw [List.drop_eq_getElem_cons (by omega)]
      congr 1
      unfold rd
      rw [Int.toNat_natCast, List.getD_eq_getElem?_getD, List.getElem?_eq_getElem (by omega)]; rfl
    rw [hd]
    simp
theorem RefPlaces_eq (s : ByteArray) (hz : s.size ≤ 9000) (offs : List Int) (ho : offs.length ≤ 10000) (k : Nat) (hk : 20010 < k) : wispref02_Places.f k s offs = some (offs.map (PS s)) := by
  unfold wispref02_Places.f
  have := ref_loop s hz offs ho offs.length 0 k [] (by omega) (by simp) (by omega)
  simpa using this
end Go.Proofs.Ytjphhnhloeanlaa.Pure
