/- The statement TextRise over numbers and lists alone: places rise byte by byte from 1:1, and hang on what stands ahead alone. -/
import Derived.Test.YtjphhnhloeanlaaPx10
import Derived.Test.YtjphhnhloeanlaaMath1
namespace Go.Proofs.Ytjphhnhloeanlaa.Pure
set_option linter.unusedSimpArgs false
set_option linter.unusedVariables false
open Go.RowKit Go.Proofs.Ytjphhnhloeanlaa.P Go.Proofs.YtjphhnhloeanlaaW.PrintWords Go.Proofs.YtjphhnhloeanlaaW.PrintLast Go.Proofs.YtjphhnhloeanlaaW.PrintMore

/-! ### the search -/
theorem search_loop (L : List Int) (x : Int) (hn : L.length ≤ 10000) (p : Nat) (hp : p ≤ L.length) (hA : ∀ j : Nat, j < p → rd L j < x) (hB : ∀ j : Nat, p ≤ j → j < L.length → x ≤ rd L j) (d : Nat) :
    ∀ (k lo hi : Nat), lo ≤ p → p ≤ hi → hi ≤ L.length → hi - lo ≤ d → d + 1 < k → slices_BinarySearch_int_int.l0 k L x L.length lo hi = some ((p : Int), decide (p < L.length ∧ rd L p = x)) := by
  induction d with
  | zero =>
    intro k lo hi h1 h2 h3 h4 hk
    obtain ⟨k, rfl⟩ : ∃ q, k = q + 1 := ⟨k - 1, by omega⟩
    obtain rfl : lo = p := by omega
    obtain rfl : hi = lo := by omega
    simp only [slices_BinarySearch_int_int.l0, slices_isNaN_int.f, Option.bind_some]
    rw [if_neg (by omega)]
    by_cases c : hi < L.length
    · rw [if_pos (by omega), if_pos (by omega), if_pos (by omega)]
      by_cases g : rd L hi = x
      · rw [if_pos g]; simp [c, g]
      · rw [if_neg g]; simp [g]
    · rw [if_neg (by omega)]; simp [c]
  | succ d ih =>
    intro k lo hi h1 h2 h3 h4 hk
    obtain ⟨k, rfl⟩ : ∃ q, k = q + 1 := ⟨k - 1, by omega⟩
    by_cases c : lo = hi
    · subst c
      exact ih (k + 1) lo lo h1 h2 h3 (by omega) (by omega)
    · have w : wrap64 ((IntKind.u64.wrap (wrap64 ((lo : Int) + (hi : Int)))) / 2) = (((lo + hi) / 2 : Nat) : Int) := by
        have e : IntKind.u64.wrap ((lo : Int) + hi) = (lo : Int) + hi := by simp [IntKind.wrap, IntKind.bits, IntKind.signed]; omega
        rw [wrap64_u (x := (lo : Int) + hi) (by omega) (by omega), e, wrap64_u (by omega) (by omega)]; omega
      have lt : ∀ a b : Int, cmp_Less_int.f a b = some (decide (a < b)) := fun a b => by simp [cmp_Less_int.f, cmp_isNaN_int.f]
      simp only [slices_BinarySearch_int_int.l0, w, lt, Option.bind_some]
      rw [if_pos (by omega), if_pos (by omega), if_pos (by omega)]
      by_cases g : (lo + hi) / 2 < p
      · rw [if_pos (by simpa using hA _ g), wrap64_u (x := (((lo + hi) / 2 : Nat) : Int) + 1) (by omega) (by omega)]
        exact ih k ((lo + hi) / 2 + 1) hi (by omega) h2 h3 (by omega) (by omega)
      · have hb := hB ((lo + hi) / 2) (by omega) (by omega)
        rw [if_neg (by rw [decide_eq_true_eq]; omega)]
        exact ih k lo ((lo + hi) / 2) h1 (by omega) (by omega) (by omega) (by omega)
theorem search_eq (A B : List Int) (x : Int) (hn : (A ++ B).length ≤ 10000) (hA : ∀ a ∈ A, a < x) (hB : ∀ b ∈ B, x ≤ b) (k : Nat) (hk : 10002 < k) :
    slices_BinarySearch_int_int.f k (A ++ B) x = some ((A.length : Int), decide (B.head? = some x)) := by
  unfold slices_BinarySearch_int_int.f
  have g1 : ∀ j : Nat, j < A.length → rd (A ++ B) j ∈ A := fun j hj => by
    have : rd (A ++ B) j = A[j] := by simp [rd, List.getD_eq_getElem?_getD, List.getElem?_append_left hj, hj]
    rw [this]; exact List.getElem_mem _
  have g2 : ∀ j : Nat, A.length ≤ j → j < (A ++ B).length → rd (A ++ B) j ∈ B := fun j h1 h2 => by
    have h3 : j - A.length < B.length := by rw [List.length_append] at h2; omega
    simp [rd, List.getD_eq_getElem?_getD, List.getElem?_append_right h1, h3]
  have := search_loop (A ++ B) x hn A.length (by simp) (fun j hj => hA _ (g1 j hj)) (fun j h1 h2 => hB _ (g2 j h1 h2)) (A ++ B).length k 0 (A ++ B).length (by omega) (by simp) (Nat.le_refl _) (by omega) (by omega)
  rw [show ((0 : Nat) : Int) = 0 from rfl] at this
  rw [this]
  congr 2
  cases B with
  | nil => simp
  | cons b r =>
    have e : rd (A ++ b :: r) (A.length : Int) = b := rd_app_r A b r
    rw [e]; simp
/-! ### places, by counting -/
def pos (s : ByteArray) : Nat → Int × Int
  | 0 => (1, 1)
  | n + 1 => if bt s n = 10 then ((pos s n).1 + 1, 1) else ((pos s n).1, (pos s n).2 + 1)
theorem pos_lines (s : ByteArray) (n : Nat) : ∃ C : List Int, 0 :: lnsTo s n = C ++ [(n : Int) - (pos s n).2 + 1] ∧ (C.length : Int) = (pos s n).1 - 1 ∧ (∀ c ∈ C, c < (n : Int) - (pos s n).2 + 1) ∧ 1 ≤ (pos s n).2 ∧ (pos s n).2 ≤ n + 1 := by
  induction n with
  | zero => exact ⟨[], by simp [lnsTo, pos], by simp [pos], by simp, by simp [pos], by simp [pos]⟩
  | succ n ih =>
    obtain ⟨C, h1, h2, h3, h4, h5⟩ := ih
    simp only [lnsTo, pos]
    by_cases c : bt s n = 10
    · simp only [if_pos c]
      refine ⟨C ++ [(n : Int) - (pos s n).2 + 1], ?_, ?_, ?_, by omega, by omega⟩
      · rw [← h1]; simp
        try omega
      · simp; omega
      · intro a ha
        rcases List.mem_append.1 ha with ha | ha
        · have := h3 a ha; omega
        · obtain rfl := List.mem_singleton.1 ha; omega
    · simp only [if_neg c]
      refine ⟨C, ?_, h2, ?_, by omega, by omega⟩
      · rw [List.append_nil, h1]; congr 2; omega
      · intro a ha; have := h3 a ha; omega
theorem lnsTo_more (s : ByteArray) (n d : Nat) : ∃ R : List Int, lnsTo s (n + d) = lnsTo s n ++ R ∧ ∀ r ∈ R, (n : Int) < r := by
  induction d with
  | zero => exact ⟨[], by simp, by simp⟩
  | succ d ih =>
    obtain ⟨R, h1, h2⟩ := ih
    show ∃ R : List Int, lnsTo s (n + d) ++ (if bt s ((n + d : Nat) : Int) = 10 then [((n + d : Nat) : Int) + 1] else []) = _ ∧ _
    rw [h1]
    refine ⟨R ++ (if bt s ((n + d : Nat) : Int) = 10 then [((n + d : Nat) : Int) + 1] else []), by rw [List.append_assoc], ?_⟩
    intro r hr
    rcases List.mem_append.1 hr with hr | hr
    · exact h2 r hr
    · split at hr
      · obtain rfl := List.mem_singleton.1 hr; omega
      · cases hr
def PS (s : ByteArray) (o : Int) : S25 := ⟨(pos s (mn (mx o 0) s.size).toNat).1, (pos s (mn (mx o 0) s.size).toNat).2⟩
theorem pos_bd (s : ByteArray) (n : Nat) : 1 ≤ (pos s n).1 ∧ (pos s n).1 ≤ n + 1 := by
  induction n with
  | zero => simp [pos]
  | succ n ih => simp only [pos]; split <;> simp <;> omega
theorem places_round (s : ByteArray) (hz : s.size ≤ 9000) (n : Nat) (hn : n ≤ s.size) (k : Nat) (hk : 10002 < k) :
    ∃ i f, slices_BinarySearch_int_int.f k (0 :: lnsTo s s.size) n = some (i, f) ∧
      (f = true → i = (pos s n).1 - 1) ∧ (f = false → i = (pos s n).1) ∧ 0 ≤ (pos s n).1 - 1 ∧ (pos s n).1 - 1 < ((0 :: lnsTo s s.size).length : Int) ∧ rd (0 :: lnsTo s s.size) ((pos s n).1 - 1) = (n : Int) - (pos s n).2 + 1 := by
  obtain ⟨C, h1, h2, h3, h4, h5⟩ := pos_lines s n
  obtain ⟨R, r1, r2⟩ := lnsTo_more s n (s.size - n)
  rw [show n + (s.size - n) = s.size by omega] at r1
  have hl := lnsTo_length s s.size
  have e0 : 0 :: lnsTo s s.size = C ++ ((n : Int) - (pos s n).2 + 1) :: R := by rw [r1, ← List.cons_append, h1, List.append_assoc]; rfl
  have e1 : rd (0 :: lnsTo s s.size) ((pos s n).1 - 1) = (n : Int) - (pos s n).2 + 1 := by rw [e0, ← h2]; exact rd_app_r C _ R
  have e2 : (pos s n).1 - 1 < ((0 :: lnsTo s s.size).length : Int) := by rw [e0, ← h2]; simp; omega
  have hlen : (0 :: lnsTo s s.size).length ≤ 10000 := by simp; omega
  by_cases c : (pos s n).2 = 1
  · have hs := search_eq C (((n : Int) - (pos s n).2 + 1) :: R) n (by rw [← e0]; exact hlen) (fun a ha => by have := h3 a ha; omega) (fun b hb => by
      rcases List.mem_cons.1 hb with rfl | hb
      · omega
      · have := r2 b hb; omega) k hk
    rw [← e0] at hs
    refine ⟨_, _, hs, fun _ => h2, fun hf => ?_, by omega, e2, e1⟩
    simp at hf; omega
  · have hs := search_eq (C ++ [(n : Int) - (pos s n).2 + 1]) R n (by rw [List.append_assoc, List.singleton_append, ← e0]; exact hlen) (fun a ha => by
      rcases List.mem_append.1 ha with ha | ha
      · have := h3 a ha; omega
      · obtain rfl := List.mem_singleton.1 ha; omega) (fun b hb => by have := r2 b hb; omega) k hk
    rw [List.append_assoc, List.singleton_append, ← e0] at hs
    refine ⟨_, _, hs, fun hf => ?_, fun _ => by simp; omega, by omega, e2, e1⟩
    exfalso
    cases R with
    | nil => simp at hf
    | cons r R' => simp at hf; have := r2 r (by simp); omega
theorem bind_at {α β : Type} {o : Option α} {a : α} {f : α → Option β} (h : o = some a) : o.bind f = f a := by rw [h]; rfl
theorem places_loop (s : ByteArray) (hz : s.size ≤ 9000) (offs : List Int) (ho : offs.length ≤ 10000) (d : Nat) : ∀ (k i : Nat) (x8 : List S25), i + d = offs.length → x8.length ≤ i → 10003 + d < k →
    text_Places.l0 k s (0 :: lnsTo s s.size) x8 offs offs.length i = some (x8 ++ (offs.drop i).map (PS s)) := by
  induction d with
  | zero =>
    intro k i x8 hi hx hk
    obtain ⟨k, rfl⟩ : ∃ q, k = q + 1 := ⟨k - 1, by omega⟩
    simp only [text_Places.l0]
    rw [if_neg (by omega), List.drop_eq_nil_of_le (by omega)]; simp
  | succ d ih =>
    intro k i x8 hi hx hk
    obtain ⟨k, rfl⟩ : ∃ q, k = q + 1 := ⟨k - 1, by omega⟩
    have c1 : (i : Int) < (offs.length : Int) := by omega
    have c2 : (0 : Int) ≤ (i : Int) := Int.natCast_nonneg i
    have c3 : x8.length < 8796093022208 := by omega
    have fin := ih k (i + 1) (x8 ++ [PS s (rd offs i)]) (by omega) (by simp; omega) (by omega)
    have fin2 : x8 ++ [PS s (rd offs i)] ++ (offs.drop (i + 1)).map (PS s) = x8 ++ (offs.drop i).map (PS s) := by rw [rd_drop offs i (by omega)]; simp
    have nxt : wrap64 ((i : Int) + 1) = ((i + 1 : Nat) : Int) := by rw [wrap64_u (by omega) (by omega)]; omega
    have hm : 0 ≤ mn (mx (rd offs i) 0) s.size ∧ mn (mx (rd offs i) 0) s.size ≤ s.size := by unfold mn mx; split <;> split <;> omega
    obtain ⟨n, hn⟩ := Int.eq_ofNat_of_zero_le hm.1
    have hn' : n ≤ s.size := by omega
    obtain ⟨j, f, hs, hf1, hf0, b0, b1, hr⟩ := places_round s hz n hn' k (by omega)
    have pb := pos_bd s n
    have pl := pos_lines s n
    have hq : 1 ≤ (pos s n).2 ∧ (pos s n).2 ≤ n + 1 := by obtain ⟨C, _, _, _, h4, h5⟩ := pl; exact ⟨h4, h5⟩
    have hP : PS s (rd offs i) = ⟨(pos s n).1, (pos s n).2⟩ := by unfold PS; rw [hn, Int.toNat_natCast]
    have wc : wrap64 (wrap64 ((n : Int) - ((n : Int) - (pos s n).2 + 1)) + 1) = (pos s n).2 := by
      rw [wrap64_u (x := (n : Int) - ((n : Int) - (pos s n).2 + 1)) (by omega) (by omega), wrap64_u (by omega) (by omega)]; omega
    have wl : wrap64 ((pos s n).1 - 1 + 1) = (pos s n).1 := by rw [wrap64_u (by omega) (by omega)]; omega
    have wl2 : wrap64 ((pos s n).1 - 1) = (pos s n).1 - 1 := wrap64_u (by omega) (by omega)
    rw [fin2, hP, ← nxt, ← wl, ← wc, ← hr] at fin
    rw [← hn] at hs
    rw [text_Places.l0]
    refine (if_pos c1).trans ((if_pos c2).trans ((if_pos c1).trans ((bind_at hs).trans ?_)))
    dsimp only
    rw [hn]
    cases f with
    | true =>
      obtain rfl := hf1 rfl
      exact (if_pos rfl).trans ((if_pos b0).trans ((if_pos b1).trans ((if_pos c3).trans fin)))
    | false =>
      obtain rfl := hf0 rfl
      refine (if_neg (by simp)).trans ?_
      rw [wl2]
      exact (if_pos b0).trans ((if_pos b1).trans ((if_pos c3).trans fin))
theorem Places_eq (s : ByteArray) (hz : s.size ≤ 9000) (offs : List Int) (ho : offs.length ≤ 10000) (k : Nat) (hk : 20010 < k) : text_Places.f k s offs = some (offs.map (PS s)) := by
  unfold text_Places.f text_lines.f
  rw [if_pos (by omega)]
  simp only [Option.bind_some]
  have := places_loop s hz offs ho offs.length k 0 [] (by omega) (by simp) (by omega)
  rw [show ((0 : Nat) : Int) = 0 from rfl] at this
  simpa using this
theorem PS_at (s : ByteArray) (n : Nat) (hn : n ≤ s.size) : PS s n = ⟨(pos s n).1, (pos s n).2⟩ := by
  unfold PS
  rw [show mn (mx (n : Int) 0) s.size = (n : Int) by unfold mn mx; split <;> split <;> omega, Int.toNat_natCast]
theorem pos_same (s t : ByteArray) (n : Nat) (h : ∀ j, j < n → bt s (j : Nat) = bt t (j : Nat)) : pos s n = pos t n := by
  induction n with
  | zero => rfl
  | succ n ih => simp only [pos]; rw [h n (by omega), ih (fun j hj => h j (by omega))]
theorem rd_map (l : List Int) (f : Int → S25) (i : Nat) (h : i < l.length) : rd_T25 (l.map f) i = f (rd l i) := by
  simp [rd_T25, rdOf, rd, List.getD_eq_getElem?_getD, h]
def upTo (n : Nat) : List Int := (List.range n).map Int.ofNat
theorem rd_upTo (n i : Nat) (h : i < n) : rd (upTo n) i = i := by simp [rd, upTo, List.getD_eq_getElem?_getD, h]
theorem rise_l1 (s : ByteArray) (hz : s.size ≤ 3000) (d : Nat) : ∀ (k i : Nat), 1 ≤ i → i + d = s.size + 1 → d + 1 < k → wisplaw02_TextRise.l1 k s ((upTo (s.size + 1)).map (PS s)) i = some true := by
  have hlen : ((upTo (s.size + 1)).map (PS s)).length = s.size + 1 := by simp [upTo]
  induction d with
  | zero =>
    intro k i h1 hi hk
    obtain ⟨k, rfl⟩ : ∃ q, k = q + 1 := ⟨k - 1, by omega⟩
    simp only [wisplaw02_TextRise.l1]
    rw [if_neg (by rw [hlen]; omega)]
  | succ d ih =>
    intro k i h1 hi hk
    obtain ⟨k, rfl⟩ : ∃ q, k = q + 1 := ⟨k - 1, by omega⟩
    have w1 : wrap64 ((i : Int) - 1) = ((i - 1 : Nat) : Int) := by rw [wrap64_u (by omega) (by omega)]; omega
    have w2 : wrap64 ((i : Int) + 1) = ((i + 1 : Nat) : Int) := by rw [wrap64_u (by omega) (by omega)]; omega
    have e1 : rd_T25 ((upTo (s.size + 1)).map (PS s)) ((i : Nat) : Int) = ⟨(pos s i).1, (pos s i).2⟩ := by rw [rd_map _ _ _ (by simp [upTo]; omega), rd_upTo _ _ (by omega), PS_at _ _ (by omega)]
    have e2 : rd_T25 ((upTo (s.size + 1)).map (PS s)) ((i - 1 : Nat) : Int) = ⟨(pos s (i - 1)).1, (pos s (i - 1)).2⟩ := by rw [rd_map _ _ _ (by simp [upTo]; omega), rd_upTo _ _ (by omega), PS_at _ _ (by omega)]
    have pb := pos_bd s (i - 1)
    have hq : 1 ≤ (pos s (i - 1)).2 ∧ (pos s (i - 1)).2 ≤ (i - 1 : Nat) + 1 := by obtain ⟨C, _, _, _, h4, h5⟩ := pos_lines s (i - 1); exact ⟨h4, h5⟩
    have w3 : wrap64 ((pos s (i - 1)).1 + 1) = (pos s (i - 1)).1 + 1 := wrap64_u (by omega) (by omega)
    have w4 : wrap64 ((pos s (i - 1)).2 + 1) = (pos s (i - 1)).2 + 1 := wrap64_u (by omega) (by omega)
    have st : pos s i = if bt s ((i - 1 : Nat) : Int) = 10 then ((pos s (i - 1)).1 + 1, 1) else ((pos s (i - 1)).1, (pos s (i - 1)).2 + 1) := by
      conv => lhs; rw [show i = (i - 1) + 1 by omega]
      rfl
    have fin := ih k (i + 1) (by omega) (by omega) (by omega)
    simp only [wisplaw02_TextRise.l1, w1, w2, e1, e2, w3, w4]
    rw [if_pos (by rw [hlen]; omega), if_pos (by omega), if_pos (by omega)]
    by_cases c : bt s ((i - 1 : Nat) : Int) = 10
    · rw [if_pos c] at st
      rw [if_pos c, if_pos (by omega), if_pos (by rw [hlen]; omega), st]
      simpa using fin
    · rw [if_neg c] at st
      rw [if_neg c, if_pos (by omega), if_pos (by rw [hlen]; omega), st]
      simpa using fin
theorem same_one (x : Int × Int) : (!((S25.mk x.1 x.2).f0 == (S25.mk x.1 x.2).f0) || !((S25.mk x.1 x.2).f1 == (S25.mk x.1 x.2).f1)) = false := by simp
theorem bt_extract (s t : ByteArray) (n j : Nat) (hn : n ≤ s.size) (hj : j < n) : bt (s.extract 0 n ++ t) (j : Nat) = bt s (j : Nat) := by
  rw [← rd_bytesOf, ← rd_bytesOf, bytes_append]
  have e : bytesOf (s.extract 0 n) = (bytesOf s).take n := by
    unfold bytesOf
    rw [← List.map_take]
    congr 1
    rw [ByteArray.data_extract, Array.toList_extract, List.extract_eq_take_drop]
    simp
  rw [e]
  have hl := bytesOf_length s
  have hj2 : j < ((bytesOf s).take n).length := by rw [List.length_take]; omega
  simp only [rd, List.getD_eq_getElem?_getD, Int.toNat_natCast]
  rw [List.getElem?_append_left hj2, List.getElem?_take, if_pos hj]
theorem rise_l0 (s t : ByteArray) (hz : s.size ≤ 3000) (hz2 : t.size ≤ 3000) (c : Nat) (hc : c ≤ s.size) (d : Nat) : ∀ (k i : Nat), i + d = s.size + 1 → 40000 + d < k → wisplaw02_TextRise.l0 k s t c (upTo i) i = some true := by
  induction d with
  | zero =>
    intro k i hi hk
    obtain ⟨k, rfl⟩ : ∃ q, k = q + 1 := ⟨k - 1, by omega⟩
    obtain rfl : i = s.size + 1 := by omega
    have hlen : ((upTo (s.size + 1)).map (PS s)).length = s.size + 1 := by simp [upTo]
    have hsz : (s.extract 0 c ++ t).size ≤ 6000 := by rw [ByteArray.size_append, ByteArray.size_extract]; omega
    have hcs : c ≤ (s.extract 0 c ++ t).size := by rw [ByteArray.size_append, ByteArray.size_extract]; omega
    have e1 := Places_eq s (by omega) (upTo (s.size + 1)) (by simp [upTo]; omega) k (by omega)
    have e2 := Places_eq (s.extract 0 c ++ t) (by omega) [(c : Int)] (by simp) k (by omega)
    have p2 : PS (s.extract 0 c ++ t) c = ⟨(pos s c).1, (pos s c).2⟩ := by
      rw [PS_at _ _ hcs, pos_same _ s c (fun j hj => bt_extract s t c j hc hj)]
    have g1 : rd_T25 ((upTo (s.size + 1)).map (PS s)) (c : Int) = ⟨(pos s c).1, (pos s c).2⟩ := by rw [rd_map _ _ _ (by simp [upTo]; omega), rd_upTo _ _ (by omega), PS_at _ _ hc]
    have g0 : rd_T25 ((upTo (s.size + 1)).map (PS s)) 0 = ⟨1, 1⟩ := by
      have := rd_map (upTo (s.size + 1)) (PS s) 0 (by simp [upTo])
      rw [show ((0 : Nat) : Int) = 0 from rfl] at this
      rw [this, show (0 : Int) = ((0 : Nat) : Int) from rfl, rd_upTo _ _ (by omega), PS_at _ _ (by omega)]; rfl
    have g2 : rd_T25 [(⟨(pos s c).1, (pos s c).2⟩ : S25)] 0 = ⟨(pos s c).1, (pos s c).2⟩ := rfl
    have w1 : wrap64 ((s.size : Int) + 1) = ((s.size + 1 : Nat) : Int) := by rw [wrap64_u (by omega) (by omega)]; omega
    have fin := fun q hq => rise_l1 s hz s.size q 1 (by omega) (by omega) hq
    have k1 : ¬ (((s.size + 1 : Nat) : Int) ≤ (s.size : Int)) := by omega
    have k2 : (0 : Int) ≤ (c : Int) := Int.natCast_nonneg c
    have k3 : (c : Int) ≤ (s.size : Int) := by omega
    have k4 : (s.extract 0 (c : Int).toNat).size + t.size ≤ 9223372036854775807 := by rw [Int.toNat_natCast, ByteArray.size_extract]; omega
    have k5 : ((((upTo (s.size + 1)).map (PS s)).length : Nat) : Int) = ((s.size + 1 : Nat) : Int) := by rw [hlen]
    have k6 : (c : Int) < ((((upTo (s.size + 1)).map (PS s)).length : Nat) : Int) := by rw [hlen]; omega
    have k7 : (0 : Int) < ((((upTo (s.size + 1)).map (PS s)).length : Nat) : Int) := by rw [hlen]; omega
    rw [wisplaw02_TextRise.l0]
    refine (if_neg k1).trans ((bind_at e1).trans ((if_pos k2).trans ((if_pos k3).trans ((if_pos k4).trans ?_))))
    rw [Int.toNat_natCast]
    refine (bind_at e2).trans ?_
    rw [List.map_cons, List.map_nil, p2, w1]
    refine (if_pos k5).trans ((if_pos (by rfl)).trans ((if_pos (by simp)).trans ((if_pos k6).trans ?_)))
    rw [g2, g1]
    refine (if_neg (by rw [same_one]; simp)).trans ((if_pos k7).trans ?_)
    rw [g0]
    obtain ⟨k, rfl⟩ : ∃ q, k = q + 1 := ⟨k - 1, by omega⟩
    rw [wisplaw02_TextRise.j1]
    refine (if_neg (by simp)).trans ?_
    exact fin k (by omega)
  | succ d ih =>
    intro k i hi hk
    obtain ⟨k, rfl⟩ : ∃ q, k = q + 1 := ⟨k - 1, by omega⟩
    have k1 : (i : Int) ≤ (s.size : Int) := by omega
    have k2 : (upTo i).length < 17592186044416 := by simp [upTo]; omega
    have w2 : wrap64 ((i : Int) + 1) = ((i + 1 : Nat) : Int) := by rw [wrap64_u (by omega) (by omega)]; omega
    have e : upTo i ++ [(i : Int)] = upTo (i + 1) := by simp [upTo, List.range_succ]
    have fin := ih k (i + 1) (by omega) (by omega)
    rw [wisplaw02_TextRise.l0]
    refine (if_pos k1).trans ((if_pos k2).trans ?_)
    rw [e, w2]; exact fin
theorem TextRise : wisplaw02_TextRise.Pure := by
  intro a b cut ha hb hc
  obtain ⟨n, hn, n1, n2⟩ : ∃ n : Nat, mn (a.size : Int) 3000 = n ∧ n ≤ 3000 ∧ n ≤ a.size := by
    refine ⟨(mn (a.size : Int) 3000).toNat, ?_, ?_, ?_⟩ <;> unfold mn <;> split <;> omega
  obtain ⟨m, hm, m1, m2⟩ : ∃ m : Nat, mn (b.size : Int) 3000 = m ∧ m ≤ 3000 ∧ m ≤ b.size := by
    refine ⟨(mn (b.size : Int) 3000).toNat, ?_, ?_, ?_⟩ <;> unfold mn <;> split <;> omega
  have sa : (a.extract 0 n).size = n := by rw [ByteArray.size_extract]; omega
  have sb : (b.extract 0 m).size = m := by rw [ByteArray.size_extract]; omega
  obtain ⟨c, hcc, c1⟩ : ∃ c : Nat, mn (mx cut 0) ((a.extract 0 n).size : Int) = c ∧ c ≤ (a.extract 0 n).size := by
    refine ⟨(mn (mx cut 0) ((a.extract 0 n).size : Int)).toNat, ?_, ?_⟩ <;> unfold mn mx <;> split <;> split <;> omega
  refine ⟨50000 + 60, ?_⟩
  unfold wisplaw02_TextRise.f
  rw [fixed_text, hn, hm, Int.toNat_natCast, Int.toNat_natCast, hcc]
  have fin := rise_l0 (a.extract 0 n) (b.extract 0 m) (by omega) (by omega) c c1 ((a.extract 0 n).size + 1) (50000 + 60) 0 (by omega) (by omega)
  refine (bind_at rfl).trans ((if_pos rfl).trans ((if_pos (Int.natCast_nonneg n)).trans ((if_pos (by omega)).trans ((if_pos (Int.natCast_nonneg m)).trans ((if_pos (by omega)).trans ?_)))))
  exact fin
end Go.Proofs.Ytjphhnhloeanlaa.Pure
