/- What Unpack, Diff, Apply, Art and Read answer, over numbers alone. (Put together by gen_nm.py out of the plain seat's texts.) -/
import Derived.Test.YtpjdgndbcjinjaaDoorFs
import Derived.Test.YtpjdgndbcjinjaaDoorPx6
import Derived.Test.YtpjdgndbcjinjaaDoorPx7
import Derived.Test.YtpjdgndbcjinjaaDoorPx8
namespace Go.Proofs.YtpjdgndbcjinjaaDoor.P
open Go.RowKit Go.Proofs.YtpjdgndbcjinjaaDoorW.PrintWords Go.Proofs.YtpjdgndbcjinjaaDoorW.PrintLast Go.Proofs.YtpjdgndbcjinjaaDoorW.PrintMore Go.Proofs.YtpjdgndbcjinjaaDoor.Mine
set_option linter.unusedVariables false
set_option linter.unusedSimpArgs false
/-- a pixel that differs, as a change -/
def chg (a b : List Int) (i : Nat) : S51 := ⟨((i % 64 : Nat) : Int), ((i / 64 : Nat) : Int), rd a i, rd b i⟩
def dl (a b : List Int) : Nat → Nat → List S51
  | 0, _ => []
  | n + 1, i => if rd a i = rd b i then dl a b n (i + 1) else chg a b i :: dl a b n (i + 1)
theorem dl_len (a b : List Int) : ∀ n i, (dl a b n i).length ≤ n
  | 0, _ => by simp [dl]
  | n + 1, i => by
    have := dl_len a b n (i + 1)
    simp only [dl]; split <;> simp <;> omega
theorem div_ok (i : Nat) (h : i < 3072) : wrap64 (Int.tdiv (i : Int) 64) = ((i / 64 : Nat) : Int) := by
  rw [Int.tdiv_eq_ediv_of_nonneg (Int.natCast_nonneg i), wrapI (by omega) (by omega)]; omega
theorem Diff_l0 (a b : List Int) (ha : a.length = 3072) (hb : b.length = 3072) : ∀ (n q i : Nat) (acc : List S51), i + n = 3072 → acc.length ≤ i →
    shot_Diff.l0 (n + 1 + q) a b acc 3072 (i : Int) = some (acc ++ dl a b n i, 0)
  | 0, q, i, acc, hi, hl => by
    rw [show 0 + 1 + q = q + 1 by omega, shot_Diff.l0, if_neg (by omega)]; simp [dl]
  | n + 1, q, i, acc, hi, hl => by
    have ih := fun acc' => Diff_l0 a b ha hb n q (i + 1) acc' (by omega)
    rw [show n + 1 + 1 + q = (n + 1 + q) + 1 by omega, shot_Diff.l0, if_pos (show (i : Int) < 3072 by omega), if_pos (Int.natCast_nonneg i), if_pos (show (i : Int) < (a.length : Int) by omega), if_pos (show (i : Int) < (b.length : Int) by omega), wrapI (i := (i : Int) + 1) (by omega) (by omega)]
    by_cases h : rd a i = rd b i
    · rw [if_pos h]
      have := ih acc (by omega)
      simp only [dl]; rw [if_pos h]; exact this
    · rw [if_neg h, if_pos (show acc.length < 5864062014805 by omega), mod_ok, div_ok i (by omega)]
      have := ih (acc ++ [chg a b i]) (by simp; omega)
      simp only [dl]; rw [if_neg h]
      rw [List.append_assoc] at this
      exact this
theorem Diff_f (a b : List Int) (ha : a.length = 3072) (hb : b.length = 3072) (q : Nat) : shot_Diff.f (3074 + q) a b = some (dl a b 3072 0, 0) := by
  have h := Diff_l0 a b ha hb 3072 q 0 [] (by omega) (by simp)
  have e1 : shot_screen.f a = some true := by rw [shot_screen.f, ha]; rfl
  have e2 : shot_screen.f b = some true := by rw [shot_screen.f, hb]; rfl
  rw [shot_Diff.f, e1, Option.bind_some, if_pos rfl, e2, Option.bind_some, show 3074 + q = (3073 + q) + 1 by omega, shot_Diff.j0, if_neg (by decide), ha]
  exact h
theorem at_ok (i : Nat) (hi : i < 3072) : wrap64 (wrap64 (((i / 64 : Nat) : Int) * 64) + ((i % 64 : Nat) : Int)) = (i : Int) := by
  rw [wrapI (i := ((i / 64 : Nat) : Int) * 64) (by omega) (by omega), wrapI (by omega) (by omega)]; omega
theorem at_ok' (i : Nat) (hi : i < 3072) : wrap64 (wrap64 (64 * ((i / 64 : Nat) : Int)) + ((i % 64 : Nat) : Int)) = (i : Int) := by
  rw [Int.mul_comm]; exact at_ok i hi
def isB (x : Int) : Prop := 0 ≤ x ∧ x < 256
def allB (l : List Int) : Prop := ∀ x ∈ l, isB x
theorem wfB {x : Int} (h : (Lit.int .u8 x).wf = true) : isB x := by
  have h2 : (decide ((0 : Int) ≤ x) && decide (x ≤ 255)) = true := h
  simp only [Bool.and_eq_true, decide_eq_true_eq] at h2
  exact ⟨h2.1, by omega⟩
theorem rdB {l : List Int} (h : allB l) (i : Int) : isB (rd l i) := by
  unfold rd
  rw [List.getD_eq_getElem?_getD]
  cases hq : l[i.toNat]? with
  | none => exact ⟨by decide, by decide⟩
  | some x => exact h x (List.mem_of_getElem? hq)
abbrev DG : ByteArray := ⟨#[48, 49, 50, 51, 52, 53, 54, 55, 56, 57, 97, 98, 99, 100, 101, 102]⟩
theorem byteN {p : Int → Prop} (h : ∀ n : Nat, n < 256 → p (n : Int)) {x : Int} (hx : isB x) : p x := by
  obtain ⟨n, rfl⟩ := Int.eq_ofNat_of_zero_le hx.1
  exact h n (by have := hx.2; omega)
/-- a pixel's two characters -/
def px (x : Int) : List Int := if x = 0 then [46, 46] else [bt DG (x / 16), bt DG (Go.bits .and .u8 x 15)]
theorem px_ok : ∀ n : Nat, n < 256 → 0 ≤ Go.bits .and .u8 (n : Int) 15 ∧ Go.bits .and .u8 (n : Int) 15 < 16 ∧ (Go.bits .and .u8 (n : Int) 15) = (n : Int) % 16 := by decide +kernel
theorem px_len (x : Int) : (px x).length = 2 := by unfold px; split <;> rfl
theorem pxB {x : Int} (hx : isB x) : allB (px x) := by
  intro y hy
  unfold px at hy
  split at hy
  · simp at hy; subst hy; exact ⟨by decide, by decide⟩
  · simp at hy
    rcases hy with rfl | rfl
    · have := bt_range DG (x / 16); exact ⟨this.1, by omega⟩
    · have := bt_range DG (Go.bits .and .u8 x 15); exact ⟨this.1, by omega⟩
def nl (i : Nat) : List Int := if i % 64 = 63 then [10] else []
theorem nl_len (i : Nat) : (nl i).length ≤ 1 := by unfold nl; split <;> simp
/-- a screen's text from pixel i on -/
def artL (s : List Int) : Nat → Nat → List Int
  | 0, _ => []
  | n + 1, i => px (rd s i) ++ (nl i ++ artL s n (i + 1))
theorem Art_step (s acc : List Int) (i k : Nat) (hb : allB s) (hs : s.length = 3072) (hi : i < 3072) (ha : acc.length ≤ 3 * i) :
    shot_Art.l0 (k + 1) acc s 3072 (i : Int) = shot_Art.l0 k (acc ++ (px (rd s i) ++ nl i)) s 3072 ((i + 1 : Nat) : Int) := by
  have hx := rdB hb (i : Int)
  have hp := byteN (p := fun x => 0 ≤ Go.bits .and .u8 x 15 ∧ Go.bits .and .u8 x 15 < 16 ∧ Go.bits .and .u8 x 15 = x % 16) px_ok hx
  rw [shot_Art.l0, if_pos (show (i : Int) < 3072 by omega), if_pos (Int.natCast_nonneg i), if_pos (show (i : Int) < (s.length : Int) by omega), mod_ok, wrapI (i := (i : Int) + 1) (by omega) (by omega)]
  unfold px nl
  by_cases h : rd s i = 0
  · rw [if_pos h, if_pos h, if_pos (show acc.length + 2 < 140737488355328 by omega), Option.bind_some, dots]
    by_cases h63 : i % 64 = 63
    · rw [if_pos (by omega), if_pos (by simp; omega), if_pos h63, List.append_assoc]; rfl
    · rw [if_neg (by omega), if_neg h63, List.append_nil]; rfl
  · have hx1 := hx.1
    have hx2 := hx.2
    rw [if_neg h, if_neg h, if_pos (by omega), if_pos (by omega), if_pos hp.1, if_pos hp.2.1, Option.bind_some, if_pos (by simp; omega), Option.bind_some]
    by_cases h63 : i % 64 = 63
    · rw [if_pos (by omega), if_pos (by simp; omega), if_pos h63, List.append_assoc]; rfl
    · rw [if_neg (by omega), if_neg h63, List.append_nil]; rfl
theorem Art_l0 (s : List Int) (hb : allB s) (hs : s.length = 3072) : ∀ (n q i : Nat) (acc : List Int), i + n = 3072 → acc.length ≤ 3 * i →
    shot_Art.l0 (n + 1 + q) acc s 3072 (i : Int) = some (strOfNums (acc ++ artL s n i), 0)
  | 0, q, i, acc, hi, ha => by
    rw [show 0 + 1 + q = q + 1 by omega, shot_Art.l0, if_neg (by omega)]; simp [artL]
  | n + 1, q, i, acc, hi, ha => by
    have h1 := px_len (rd s i)
    have h2 := nl_len i
    rw [show n + 1 + 1 + q = (n + 1 + q) + 1 by omega, Art_step s acc i _ hb hs (by omega) ha,
      Art_l0 s hb hs n q (i + 1) _ (by omega) (by simp; omega)]
    simp only [artL, List.append_assoc]
def artOf (s : List Int) : ByteArray := strOfNums (artL s 3072 0)
theorem Art_f (s : List Int) (hb : allB s) (hs : s.length = 3072) (k : Nat) (hk : 3073 ≤ k) : shot_Art.f k s = some (artOf s, 0) := by
  have e1 : shot_screen.f s = some true := by rw [shot_screen.f, hs]; rfl
  have h := Art_l0 s hb hs 3072 (k - 3073) 0 [] (by omega) (by simp)
  rw [shot_Art.f, e1, Option.bind_some, if_pos rfl, hs]
  rw [show 3072 + 1 + (k - 3073) = k by omega, List.nil_append] at h
  exact h
theorem artL_B (s : List Int) (hb : allB s) : ∀ n i, allB (artL s n i)
  | 0, _ => fun x hx => by simp [artL] at hx
  | n + 1, i => fun x hx => by
    simp only [artL, List.mem_append] at hx
    rcases hx with h | h | h
    · exact pxB (rdB hb i) x h
    · unfold nl at h; split at h <;> simp at h; subst h; exact ⟨by decide, by decide⟩
    · exact artL_B s hb n (i + 1) x h
/-- where a pixel's characters stand -/
def pos (i : Nat) : Nat := 129 * (i / 64) + 2 * (i % 64)
theorem pos_step (i : Nat) : pos i + 2 + (nl i).length = pos (i + 1) := by
  unfold pos nl
  split <;> simp <;> omega
theorem artL_len (s : List Int) : ∀ n i, i + n = 3072 → (artL s n i).length + pos i = 6192
  | 0, i, h => by obtain rfl : i = 3072 := by omega
                  rfl
  | n + 1, i, h => by
    have h1 := artL_len s n (i + 1) (by omega)
    have h2 := pos_step i
    have h3 := px_len (rd s i)
    simp only [artL, List.length_append]
    omega
theorem artL_at (s : List Int) (j : Nat) : ∀ n i, i + n = 3072 → i ≤ j → j < 3072 →
    ∃ p t, artL s n i = p ++ (px (rd s j) ++ t) ∧ p.length + pos i = pos j
  | 0, i, h, h1, h2 => by omega
  | n + 1, i, h, h1, h2 => by
    by_cases e : i = j
    · subst e; exact ⟨[], _, rfl, by simp⟩
    · obtain ⟨p, t, hp, hl⟩ := artL_at s j n (i + 1) (by omega) (by omega) h2
      refine ⟨px (rd s i) ++ (nl i ++ p), t, by rw [artL, hp]; simp, ?_⟩
      have h3 := px_len (rd s i)
      have h4 := pos_step i
      simp only [List.length_append]
      omega
theorem bt_str {xs : List Int} (h : allB xs) (i : Nat) : bt (strOfNums xs) (i : Int) = rd xs i := by
  unfold bt rd
  simp only [Int.toNat_natCast]
  split
  · rename_i hi
    rw [strOfNums_size] at hi
    have e : (strOfNums xs)[i]'(by rw [strOfNums_size]; exact hi) = UInt8.ofNat (xs[i]).toNat := by
      show (strOfNums xs).data[i]'(_) = _
      simp [strOfNums]
    rw [e, List.getD_eq_getElem?_getD, List.getElem?_eq_getElem hi]
    have hb := h xs[i] (List.getElem_mem hi)
    have h1 := hb.1
    have h2 := hb.2
    simp only [UInt8.toNat_ofNat', Option.getD_some]
    omega
  · rename_i hi
    rw [strOfNums_size] at hi
    rw [List.getD_eq_getElem?_getD, List.getElem?_eq_none (by omega)]; rfl
theorem rd_mid (p : List Int) (a b : Int) (t : List Int) : rd (p ++ ([a, b] ++ t)) (p.length : Int) = a ∧ rd (p ++ ([a, b] ++ t)) ((p.length + 1 : Nat) : Int) = b := by
  unfold rd
  simp only [Int.toNat_natCast, List.getD_eq_getElem?_getD]
  constructor
  · rw [List.getElem?_append_right (Nat.le_refl _), Nat.sub_self]; rfl
  · rw [List.getElem?_append_right (by omega), show p.length + 1 - p.length = 1 by omega]; rfl
theorem art_size (s : List Int) : (artOf s).size = 6192 := by
  have := artL_len s 3072 0 (by omega)
  unfold artOf
  rw [strOfNums_size]
  simpa [pos] using this
theorem art_bt (s : List Int) (hb : allB s) (j : Nat) (hj : j < 3072) : bt (artOf s) (pos j : Nat) = (px (rd s j)).getD 0 0 ∧ bt (artOf s) ((pos j + 1 : Nat) : Int) = (px (rd s j)).getD 1 0 := by
  obtain ⟨p, t, hp, hl⟩ := artL_at s j 3072 0 (by omega) (by omega) hj
  have hpos : pos 0 = 0 := rfl
  rw [hpos, Nat.add_zero] at hl
  obtain ⟨a, b, hab⟩ : ∃ a b, px (rd s j) = [a, b] := by
    have h2 := px_len (rd s j)
    match px (rd s j), h2 with
    | [a, b], _ => exact ⟨a, b, rfl⟩
  rw [← hl]
  unfold artOf
  rw [bt_str (artL_B s hb 3072 0), bt_str (artL_B s hb 3072 0), hp, hab]
  exact rd_mid p a b t
theorem toList_bytes (s : ByteArray) (l : List UInt8) : s.toList = l ↔ bytesOf s = l.map fun b => (b.toNat : Int) := by
  rw [ByteArray.toList_eq]
  unfold bytesOf
  constructor
  · intro h; rw [h]
  · intro h
    exact (List.map_inj_right (fun a b hab => UInt8.toNat_inj.1 (by omega))).1 h
theorem toList_same (s t : ByteArray) : s.toList = t.toList ↔ bytesOf s = bytesOf t := by
  rw [toList_bytes, ByteArray.toList_eq]; rfl
theorem bytes_str {l : List Int} (h : allB l) : bytesOf (strOfNums l) = l := by
  unfold bytesOf strOfNums
  simp only [List.map_map]
  conv => rhs; rw [← List.map_id l]
  refine List.map_congr_left fun c hc => ?_
  have h1 := (h c hc).1
  have h2 := (h c hc).2
  simp only [Function.comp, UInt8.toNat_ofNat', id]
  omega
theorem str_same {l m : List Int} (hl : allB l) (hm : allB m) : (strOfNums l).toList = (strOfNums m).toList ↔ l = m := by
  rw [toList_same, bytes_str hl, bytes_str hm]
theorem bytesOf_B (s : ByteArray) : allB (bytesOf s) := by
  intro c hc
  unfold bytesOf at hc
  obtain ⟨b, _, rfl⟩ := List.mem_map.1 hc
  have := b.toNat_lt
  exact ⟨by omega, by omega⟩
theorem two_bytes (s : ByteArray) (p : Nat) (h : p + 2 ≤ s.size) : bytesOf ((s.extract p s.size).extract 0 2) = [bt s p, bt s ((p + 1 : Nat) : Int)] := by
  have hd : bytesOf ((s.extract p s.size).extract 0 2) = ((bytesOf s).drop p).take 2 := by
    unfold bytesOf
    rw [← List.map_drop, ← List.map_take]
    refine congrArg (List.map _) ?_
    rw [ByteArray.data_extract, Array.toList_extract, ByteArray.data_extract, Array.toList_extract, List.extract_eq_take_drop, List.extract_eq_take_drop, List.drop_zero]
    rw [List.take_of_length_le (i := s.size - p) (by rw [List.length_drop, data_length]; omega)]
  have hl := bytesOf_length s
  rw [hd, ← rd_bytesOf, ← rd_bytesOf]
  unfold rd
  simp only [Int.toNat_natCast, List.getD_eq_getElem?_getD]
  rw [List.getElem?_eq_getElem (by omega), List.getElem?_eq_getElem (by omega)]
  rw [List.drop_eq_getElem_cons (by omega), List.drop_eq_getElem_cons (by omega)]
  rfl
def half (c : Int) : Int := if c ≥ 97 then ((c - 97) % 256 + 10) % 256 else (c - 48) % 256
theorem half_f (c : Int) : shot_half.f c = some (half c) := by unfold shot_half.f half; split <;> rfl
theorem or_u8B (a b : Int) : isB (Go.bits .or .u8 a b) := by
  have : Go.bits .or .u8 a b = (Go.bits .or .u8 a b) % 256 := by
    unfold Go.bits; simp only [IntKind.wrap_u8]; omega
  rw [this]; exact ⟨by omega, by omega⟩
/-- the pixel that two characters tell -/
def rp (a b : Int) : Int := if a = 46 ∧ b = 46 then 0 else Go.bits .or .u8 ((half a * 16) % 256) (Go.bits .and .u8 (half b) 15)
theorem rpB (a b : Int) : isB (rp a b) := by
  unfold rp; split
  · exact ⟨by decide, by decide⟩
  · exact or_u8B _ _
def rv (t : ByteArray) (p : Nat) : Int := rp (bt t p) (bt t ((p + 1 : Nat) : Int))
def rdF (t : ByteArray) : Nat → Nat → List Int
  | 0, _ => []
  | n + 1, i => rv t (pos i) :: rdF t n (i + 1)
theorem rdF_len (t : ByteArray) : ∀ n i, (rdF t n i).length = n
  | 0, _ => rfl
  | n + 1, i => by simp [rdF, rdF_len t n (i + 1)]
theorem rdF_B (t : ByteArray) : ∀ n i, allB (rdF t n i)
  | 0, _ => fun x hx => by simp [rdF] at hx
  | n + 1, i => fun x hx => by
    simp only [rdF, List.mem_cons] at hx
    rcases hx with h | h
    · rw [h]; exact rpB _ _
    · exact rdF_B t n (i + 1) x h
theorem rdF_add (t : ByteArray) : ∀ m n i, rdF t (m + n) i = rdF t m i ++ rdF t n (i + m)
  | 0, n, i => by simp [rdF]
  | m + 1, n, i => by rw [show m + 1 + n = (m + n) + 1 by omega]; simp only [rdF, List.cons_append]; rw [rdF_add t m n (i + 1), show i + 1 + m = i + (m + 1) by omega]
theorem Read_step (t : ByteArray) (ht : t.size = 6192) (acc : List Int) (x y k : Nat) (hx : x < 64) (hy : y < 48) (ha : acc.length ≤ 5000) :
    shot_Read.l1 (k + 1) t acc (y : Int) (y : Int) (x : Int) = shot_Read.l1 k t (acc ++ [rv t (pos (64 * y + x))]) (y : Int) (y : Int) ((x + 1 : Nat) : Int) := by
  have hpos : pos (64 * y + x) = 129 * y + 2 * x := by unfold pos; omega
  have hw : wrap64 (wrap64 ((y : Int) * 129) + wrap64 (2 * (x : Int))) = ((pos (64 * y + x) : Nat) : Int) := by
    rw [wrapI (i := (y : Int) * 129) (by omega) (by omega), wrapI (i := 2 * (x : Int)) (by omega) (by omega), wrapI (by omega) (by omega), hpos]; omega
  rw [shot_Read.l1, if_pos (show (x : Int) < 64 by omega)]
  simp only [hw, Int.toNat_natCast]
  generalize hp : pos (64 * y + x) = p at *
  have hp2 : p + 2 ≤ t.size := by omega
  have h2 := two_bytes t p hp2
  generalize hE : (t.extract p t.size).extract 0 2 = E at h2 ⊢
  have hEl := bytesOf_length E
  rw [h2] at hEl
  simp only [List.length_cons, List.length_nil] at hEl
  have e0 : bt E 0 = bt t p := by rw [← rd_bytesOf, h2]; rfl
  have e1 : bt E 1 = bt t ((p + 1 : Nat) : Int) := by rw [← rd_bytesOf, h2]; rfl
  have hs : ((t.extract p t.size).size : Int) = (t.size : Int) - p := by rw [ByteArray.size_extract]; omega
  rw [if_pos (Int.natCast_nonneg p), if_pos (by omega), if_pos (by omega), if_pos (by omega), if_pos (show (0 : Int) < (E.size : Int) by omega), e0, e1, half_f, half_f, Option.bind_some, if_pos (show (1 : Int) < (E.size : Int) by omega), Option.bind_some, wrapI (i := (x : Int) + 1) (by omega) (by omega), if_pos (show acc.length < 140737488355328 by omega)]
  unfold rv rp
  by_cases h : bt t p = 46 ∧ bt t ((p + 1 : Nat) : Int) = 46
  · rw [if_pos h, if_pos]
    · rfl
    · rw [toList_bytes, h2, h.1, h.2]; rfl
  · rw [if_neg h, if_neg, if_pos (show acc.length < 140737488355328 by omega)]
    · rfl
    · rw [toList_bytes, h2]
      intro he
      simp at he
      exact h he
theorem Read_row (t : ByteArray) (ht : t.size = 6192) (y : Nat) (hy : y < 48) (k : Nat) : ∀ (n x : Nat) (acc : List Int), x + n = 64 → acc.length ≤ 4000 + x →
    shot_Read.l1 (n + 1 + k) t acc (y : Int) (y : Int) (x : Int) = shot_Read.l0 k t (acc ++ rdF t n (64 * y + x)) ((y + 1 : Nat) : Int)
  | 0, x, acc, h, ha => by
    rw [show 0 + 1 + k = k + 1 by omega, shot_Read.l1, if_neg (by omega), wrapI (by omega) (by omega)]; simp [rdF]
  | n + 1, x, acc, h, ha => by
    rw [show n + 1 + 1 + k = (n + 1 + k) + 1 by omega, Read_step t ht acc x y _ (by omega) hy (by omega), Read_row t ht y hy k n (x + 1) _ (by omega) (by simp; omega)]
    rw [List.append_assoc, show 64 * y + (x + 1) = 64 * y + x + 1 by omega]; rfl
/-- what is read of a text of a screen's size -/
def rdL (t : ByteArray) : List Int := rdF t 3072 0
theorem rdL_len (t : ByteArray) : (rdL t).length = 3072 := rdF_len t 3072 0
theorem rdL_B (t : ByteArray) : allB (rdL t) := rdF_B t 3072 0
theorem Read_l0 (t : ByteArray) (ht : t.size = 6192) (q : Nat) (hq : 3073 ≤ q) : ∀ (m y : Nat) (acc : List Int), y + m = 48 → acc ++ rdF t (64 * m) (64 * y) = rdL t → acc.length ≤ 64 * y →
    shot_Read.l0 (66 * m + 1 + q) t acc (y : Int) = some (if (artOf (rdL t)).toList = t.toList then (rdL t, 0) else ([], 2))
  | 0, y, acc, h, ha, hl => by
    rw [show 66 * 0 + 1 + q = q + 1 by omega, shot_Read.l0, if_neg (by omega)]
    rw [show rdF t (64 * 0) (64 * y) = [] from rfl, List.append_nil] at ha
    rw [ha, Art_f (rdL t) (rdL_B t) (rdL_len t) q hq, Option.bind_some]
    split <;> rfl
  | m + 1, y, acc, h, ha, hl => by
    rw [show 66 * (m + 1) + 1 + q = (64 + 1 + (66 * m + 1 + q)) + 1 by omega, shot_Read.l0, if_pos (by omega)]
    have h1 := Read_row t ht y (by omega) (66 * m + 1 + q) 64 0 acc (by omega) (by omega)
    refine h1.trans ?_
    rw [Nat.add_zero]
    refine Read_l0 t ht q hq m (y + 1) _ (by omega) ?_ ?_
    · rw [List.append_assoc, ← ha, show 64 * (m + 1) = 64 + 64 * m by omega, rdF_add, show 64 * y + 64 = 64 * (y + 1) by omega, Nat.add_zero]
    · rw [List.length_append, rdF_len]; omega
theorem Read_f (t : ByteArray) (k : Nat) (hk : 6300 ≤ k) : shot_Read.f k t = some (if t.size = 6192 ∧ (artOf (rdL t)).toList = t.toList then (rdL t, 0) else ([], 2)) := by
  unfold shot_Read.f
  by_cases ht : t.size = 6192
  · rw [if_pos (by omega)]
    have h := Read_l0 t ht (k - 3169) (by omega) 48 0 [] (by omega) rfl (by simp)
    rw [show 66 * 48 + 1 + (k - 3169) = k by omega] at h
    refine h.trans ?_
    by_cases h2 : (artOf (rdL t)).toList = t.toList
    · rw [if_pos h2, if_pos ⟨ht, h2⟩]
    · rw [if_neg h2, if_neg (fun e => h2 e.2)]
  · rw [if_neg (by omega), if_neg (fun e => ht e.1)]
theorem rp_px : ∀ n : Nat, n < 256 → rp ((px (n : Int)).getD 0 0) ((px (n : Int)).getD 1 0) = (n : Int) := by decide +kernel
theorem rdF_art (s : List Int) (hb : allB s) : ∀ n i, i + n = 3072 → s.length = 3072 → rdF (artOf s) n i = s.drop i
  | 0, i, h, hs => by rw [List.drop_of_length_le (by omega)]; rfl
  | n + 1, i, h, hs => by
    have h1 := art_bt s hb i (by omega)
    have h2 := byteN (p := fun x => rp ((px x).getD 0 0) ((px x).getD 1 0) = x) rp_px (rdB hb (i : Int))
    simp only [rdF]
    rw [rdF_art s hb n (i + 1) (by omega) hs, List.drop_eq_getElem_cons (show i < s.length by omega)]
    unfold rv
    rw [h1.1, h1.2, h2]
    congr 1
    unfold rd
    rw [Int.toNat_natCast, List.getD_eq_getElem?_getD, List.getElem?_eq_getElem (by omega)]; rfl
theorem rdL_art (s : List Int) (hb : allB s) (hs : s.length = 3072) : rdL (artOf s) = s := by
  unfold rdL; rw [rdF_art s hb 3072 0 (by omega) hs, List.drop_zero]
theorem Read_back (s : List Int) (hb : allB s) (hs : s.length = 3072) (k : Nat) (hk : 6300 ≤ k) : shot_Read.f k (artOf s) = some (s, 0) := by
  rw [Read_f _ k hk, if_pos ⟨art_size s, by rw [rdL_art s hb hs]⟩, rdL_art s hb hs]
def unF : List Int → List Int → List Int
  | a :: x :: t, acc => if acc.length ≤ 3072 then unF t (acc ++ List.replicate (a + 1).toNat x) else acc
  | _, acc => acc
theorem runs_B : ∀ (k : Nat) (l : List Int), allB l → ∀ r ∈ runsOf k l, isB r.2 ∧ 1 ≤ r.1 ∧ r.1 ≤ 256
  | 0, _, _, r, h => by simp [runsOf] at h
  | _ + 1, [], _, r, h => by simp [runsOf] at h
  | k + 1, x :: t, hb, r, h => by
    simp only [runsOf, List.mem_cons] at h
    rcases h with rfl | h
    · have := rl_le_k x 255 t
      exact ⟨hb x (by simp), by simp, by simp; omega⟩
    · exact runs_B k _ (fun y hy => hb y (List.mem_cons_of_mem _ (List.mem_of_mem_drop hy))) r h
theorem packB {l : List (Nat × Int)} (h : ∀ r ∈ l, isB r.2 ∧ 1 ≤ r.1 ∧ r.1 ≤ 256) : allB (packOf l) := by
  intro x hx
  unfold packOf at hx
  obtain ⟨r, hr, hx⟩ := List.mem_flatMap.1 hx
  unfold runBytes at hx
  simp at hx
  rcases hx with rfl | rfl
  · exact ⟨by omega, by omega⟩
  · exact (h r hr).1
def pk (s : List Int) : List Int := packOf (runsOf s.length s)
theorem pkB {s : List Int} (h : allB s) : allB (pk s) := packB (runs_B _ s h)
theorem unF_B : ∀ (n : Nat) (l acc : List Int), l.length ≤ n → allB l → allB acc → allB (unF l acc)
  | n, [], acc, _, _, h => h
  | n, [_], acc, _, _, h => h
  | 0, _ :: _ :: _, _, h, _, _ => by simp at h
  | n + 1, a :: x :: t, acc, hn, hl, h => by
    simp only [unF]
    split
    · refine unF_B n t _ (by simp at hn; omega) (fun y hy => hl y (by simp [hy])) (fun y hy => ?_)
      rcases List.mem_append.1 hy with h1 | h1
      · exact h y h1
      · rw [List.eq_of_mem_replicate h1]; exact hl x (by simp)
    · exact h
def fin (b out : List Int) : Option (List Int × Int) := some (if out.length = 3072 ∧ pk out = b then (out, 0) else ([], 2))
theorem Unpack_j1 (b out : List Int) (hb : allB b) (ho : allB out) (k : Nat) : shot_Unpack.j1 (k + 1) b out = fin b out := by
  rw [shot_Unpack.j1, shot_Pack.f]
  unfold fin
  by_cases h : out.length = 3072
  · rw [if_pos h, Option.bind_some, if_pos rfl, bytes_Equal.f, Option.bind_some]
    have hs := str_same (pkB ho) hb
    by_cases e : pk out = b
    · have hq : ((strOfNums (packOf (runsOf out.length out))).toList == (strOfNums b).toList) = true := beq_iff_eq.2 (hs.2 e)
      rw [if_pos hq, if_pos ⟨h, e⟩]
    · have hq : ¬ ((strOfNums (packOf (runsOf out.length out))).toList == (strOfNums b).toList) = true := fun z => e (hs.1 (beq_iff_eq.1 z))
      rw [if_neg hq, if_neg (fun z => e z.2)]
  · rw [if_neg h, Option.bind_some, if_neg (by decide), if_neg (fun z => h z.1)]
theorem wrapL {i : Int} (h0 : 0 ≤ i) (h1 : i < 4611686018427387904) : wrap64 i = i := by unfold wrap64; omega
theorem Unpack_l0 (b : List Int) (hb : allB b) (hL : b.length ≤ 140737488351232) : ∀ (n : Nat) (rest acc : List Int) (i q : Nat), rest.length ≤ n → b.drop i = rest → i + rest.length = b.length → allB acc → acc.length ≤ 3400 →
    shot_Unpack.l0 (n + 2 + q) b acc (i : Int) = fin b (unF rest acc)
  | n, [], acc, i, q, h, hd, hi, ha, hl => by
    simp at hi
    rw [show n + 2 + q = (n + q + 1) + 1 by omega, shot_Unpack.l0, wrapL (i := (i : Int) + 1) (by omega) (by omega), if_neg (by omega), Unpack_j1 b acc hb ha]; rfl
  | n, [x], acc, i, q, h, hd, hi, ha, hl => by
    simp at hi
    rw [show n + 2 + q = (n + q + 1) + 1 by omega, shot_Unpack.l0, wrapL (i := (i : Int) + 1) (by omega) (by omega), if_neg (by omega), Unpack_j1 b acc hb ha]; rfl
  | 0, _ :: _ :: _, _, _, _, h, _, _, _, _ => by simp at h
  | n + 1, a :: x :: t, acc, i, q, h, hd, hi, ha, hl => by
    simp only [List.length_cons] at hi h
    have hmem : ∀ y ∈ a :: x :: t, y ∈ b := fun y hy => by rw [← hd] at hy; exact List.mem_of_mem_drop hy
    have hba := hb a (hmem a (by simp))
    have hbx := hb x (hmem x (by simp))
    have hba0 := hba.1
    have hba1 := hba.2
    have hra : rd b (i : Int) = a := by
      have : b[i]? = some a := by
        have h1 : (b.drop i)[0]? = some a := by rw [hd]; rfl
        rw [List.getElem?_drop] at h1; simpa using h1
      unfold rd; rw [Int.toNat_natCast, List.getD_eq_getElem?_getD, this]; rfl
    have hrow : (b.take (i + 2)).drop (i + 1) = [x] := by
      rw [List.drop_take, show i + 2 - (i + 1) = 1 by omega, show i + 1 = i + 1 from rfl, ← List.drop_drop, hd]; rfl
    rw [show n + 1 + 2 + q = (n + 2 + q) + 1 by omega, shot_Unpack.l0, wrapL (i := (i : Int) + 1) (by omega) (by omega), if_pos (by omega)]
    by_cases hc : acc.length ≤ 3072
    · rw [if_pos (by omega), wrapL (i := (i : Int) + 2) (by omega) (by omega), if_pos (by omega), if_pos (by omega), if_pos (by omega), if_pos (by omega), if_pos (by omega), hra, wrapL (i := a) (by omega) (by omega), wrapL (i := a + 1) (by omega) (by omega)]
      rw [show ((i : Int) + 2).toNat = i + 2 by omega, show ((i : Int) + 1).toNat = i + 1 by omega, hrow, bytes_Repeat.f, if_pos ⟨rfl, by omega, by omega⟩, Option.bind_some, if_pos (by rw [List.length_replicate]; omega)]
      rw [show rd [x] 0 = x from rfl, show (i : Int) + 2 = ((i + 2 : Nat) : Int) by omega]
      have hd2 : b.drop (i + 2) = t := by rw [← List.drop_drop, hd]; rfl
      rw [Unpack_l0 b hb hL n t (acc ++ List.replicate (a + 1).toNat x) (i + 2) q (by omega) hd2 (by omega) (fun y hy => by
        rcases List.mem_append.1 hy with h1 | h1
        · exact ha y h1
        · rw [List.eq_of_mem_replicate h1]; exact hbx) (by rw [List.length_append, List.length_replicate]; omega)]
      simp only [unF]; rw [if_pos hc]
    · rw [if_neg (by omega), show n + 2 + q = (n + q + 1) + 1 by omega, Unpack_j1 b acc hb ha]
      simp only [unF]; rw [if_neg hc]
theorem Unpack_f (b : List Int) (hb : allB b) (hL : b.length ≤ 140737488351232) (k : Nat) (hk : b.length + 2 ≤ k) : shot_Unpack.f k b = fin b (unF b []) := by
  have h := Unpack_l0 b hb hL b.length b [] 0 (k - (b.length + 2)) (Nat.le_refl _) rfl (by simp) (fun y hy => by simp at hy) (by simp)
  rw [show b.length + 2 + (k - (b.length + 2)) = k by omega] at h
  exact h
theorem rl_rep (x : Int) : ∀ k t, t.take (rl x k t) = List.replicate (rl x k t) x
  | 0, t => by cases t <;> simp [rl]
  | k + 1, [] => by simp [rl]
  | k + 1, y :: ys => by
    simp only [rl]
    split
    · rename_i h
      rw [List.take_succ_cons, rl_rep x k ys, h, List.replicate_succ]
    · simp
theorem unF_pack : ∀ (k : Nat) (l acc : List Int), l.length ≤ k → acc.length + l.length ≤ 3072 → unF (packOf (runsOf k l)) acc = acc ++ l
  | 0, [], acc, _, _ => by simp [runsOf, packOf, unF]
  | 0, _ :: _, _, h, _ => by simp at h
  | k + 1, [], acc, _, _ => by simp [runsOf, packOf, unF]
  | k + 1, x :: t, acc, h, h2 => by
    simp only [List.length_cons] at h h2
    have hr := rl_rep x 255 t
    have hk := rl_le_k x 255 t
    have hle := rl_le x 255 t
    simp only [runsOf]
    generalize rl x 255 t = m at hr hk hle ⊢
    rw [show packOf ((m + 1, x) :: runsOf k (t.drop m)) = (wrap64 (((m + 1 : Nat) : Int) - 1) % 256) :: x :: packOf (runsOf k (t.drop m)) from rfl]
    rw [show wrap64 (((m + 1 : Nat) : Int) - 1) % 256 = (m : Int) by unfold wrap64; omega]
    simp only [unF]
    rw [if_pos (by omega), show ((m : Int) + 1).toNat = m + 1 by omega, unF_pack k (t.drop m) _ (by rw [List.length_drop]; omega) (by rw [List.length_append, List.length_replicate, List.length_drop]; omega)]
    rw [List.append_assoc, List.replicate_succ, List.cons_append, ← hr, List.take_append_drop]
theorem Unpack_back (s : List Int) (hb : allB s) (hs : s.length = 3072) (k : Nat) (hk : 6300 ≤ k) : shot_Unpack.f k (pk s) = some (s, 0) := by
  have hl : (pk s).length ≤ 6144 := by
    unfold pk; rw [packOf_len]; have := runsOf_len s.length s; omega
  rw [Unpack_f (pk s) (pkB hb) (by omega) k (by omega)]
  have h := unF_pack s.length s [] (Nat.le_refl _) (by simp; omega)
  unfold fin
  rw [show unF (pk s) [] = s by simpa [pk] using h, if_pos ⟨hs, rfl⟩]
theorem runs_many : ∀ (k : Nat) (l : List Int), l.length ≤ k → l.length ≤ 256 * (runsOf k l).length
  | 0, [], _ => by simp
  | 0, _ :: _, h => by simp at h
  | k + 1, [], _ => by simp
  | k + 1, x :: t, h => by
    have hk := rl_le_k x 255 t
    have hle := rl_le x 255 t
    have := runs_many k (t.drop (rl x 255 t)) (by rw [List.length_drop]; simp at h; omega)
    rw [List.length_drop] at this
    simp only [runsOf, List.length_cons]
    omega
theorem pk_len {s : List Int} (hs : s.length = 3072) : 24 ≤ (pk s).length ∧ (pk s).length ≤ 6144 := by
  have h1 := runs_many s.length s (Nat.le_refl _)
  have h2 := runsOf_len s.length s
  unfold pk
  rw [packOf_len]
  omega
theorem Pack_f {s : List Int} (hs : s.length = 3072) : shot_Pack.f s = some (pk s, 0) := by unfold shot_Pack.f pk; rw [if_pos hs]
def unA (b : List Int) : List Int × Int := if (unF b []).length = 3072 ∧ pk (unF b []) = b then (unF b [], 0) else ([], 2)
theorem Unpack_any (b : List Int) (hb : allB b) (hL : b.length ≤ 140737488351232) (k : Nat) (hk : b.length + 2 ≤ k) : shot_Unpack.f k b = some (unA b) := Unpack_f b hb hL k hk
/-- Diff of any bytes -/
def diffA (a b : List Int) : List S51 × Int := if a.length = 3072 ∧ b.length = 3072 then (dl a b 3072 0, 0) else ([], 2)
theorem Diff_any (a b : List Int) (k : Nat) (hk : 3074 ≤ k) : shot_Diff.f k a b = some (diffA a b) := by
  unfold diffA
  by_cases h : a.length = 3072 ∧ b.length = 3072
  · rw [if_pos h]
    have := Diff_f a b h.1 h.2 (k - 3074)
    rwa [show 3074 + (k - 3074) = k by omega] at this
  · rw [if_neg h]
    obtain ⟨k, rfl⟩ : ∃ m, k = m + 1 := ⟨k - 1, by omega⟩
    unfold shot_Diff.f shot_screen.f
    by_cases ha : a.length = 3072
    · have hb : ¬ b.length = 3072 := fun hb => h ⟨ha, hb⟩
      have e1 : ((a.length : Int) == 3072) = true := beq_iff_eq.2 (by omega)
      have e2 : ((b.length : Int) == 3072) = false := beq_eq_false_iff_ne.2 (by omega)
      rw [Option.bind_some, e1, if_pos rfl, Option.bind_some, e2, shot_Diff.j0, if_pos (by rfl)]
    · have e1 : ((a.length : Int) == 3072) = false := beq_eq_false_iff_ne.2 (by omega)
      rw [Option.bind_some, e1, if_neg (by decide), shot_Diff.j0, if_pos rfl]
/-- Art of any bytes -/
def artA (s : List Int) : ByteArray × Int := if s.length = 3072 then (artOf s, 0) else (⟨#[]⟩, 2)
theorem Art_any (s : List Int) (hb : allB s) (k : Nat) (hk : 3073 ≤ k) : shot_Art.f k s = some (artA s) := by
  unfold artA
  by_cases hs : s.length = 3072
  · rw [if_pos hs]; exact Art_f s hb hs k hk
  · rw [if_neg hs, shot_Art.f, shot_screen.f, Option.bind_some, if_neg (by simp; omega)]
/-- Read of any text -/
def readA (t : ByteArray) : List Int × Int := if t.size = 6192 ∧ (artOf (rdL t)).toList = t.toList then (rdL t, 0) else ([], 2)
theorem Read_any (t : ByteArray) (k : Nat) (hk : 6300 ≤ k) : shot_Read.f k t = some (readA t) := Read_f t k hk
/-- changes, one behind the other -/
def apL : List Int → List S51 → List Int × Int
  | x, [] => (x, 0)
  | x, c :: t => if c.f0 < 0 ∨ c.f0 ≥ 64 ∨ c.f1 < 0 ∨ c.f1 ≥ 48 ∨ rd x (64 * c.f1 + c.f0) ≠ c.f2 then ([], 2) else apL (x.set (64 * c.f1 + c.f0).toNat c.f3) t
theorem apL_len : ∀ (l : List S51) (x : List Int), x.length = 3072 → (apL x l).1.length ≤ 3072
  | [], x, h => by simp [apL]; omega
  | c :: t, x, h => by
    simp only [apL]
    split
    · simp
    · exact apL_len t _ (by rw [List.length_set]; exact h)
theorem drop42 {l : List S51} {i : Nat} (h : i < l.length) : l.drop i = rd_T51 l (i : Int) :: l.drop (i + 1) := by
  rw [List.drop_eq_getElem_cons h]
  congr 1
  unfold rd_T51
  rw [Int.toNat_natCast, List.getD_eq_getElem?_getD, List.getElem?_eq_getElem h]; rfl
theorem Ap_l0 (l : List S51) (hl : l.length ≤ 4611686018427387900) : ∀ (n q i : Nat) (x : List Int), i + n = l.length → x.length = 3072 → shot_Apply.l0 (n + 1 + q) x l (l.length : Int) (i : Int) = some (apL x (l.drop i))
  | 0, q, i, x, h, hx => by
    rw [show 0 + 1 + q = q + 1 by omega, shot_Apply.l0, if_neg (by omega), List.drop_of_length_le (by omega)]; rfl
  | n + 1, q, i, x, h, hx => by
    rw [show n + 1 + 1 + q = (n + 1 + q) + 1 by omega, shot_Apply.l0, if_pos (by omega), if_pos (Int.natCast_nonneg i), if_pos (by omega), drop42 (by omega)]
    simp only [apL]
    generalize rd_T51 l (i : Int) = c
    by_cases c0 : c.f0 < 0
    · rw [if_pos c0, if_pos (.inl c0)]
    · rw [if_neg c0]
      by_cases c1 : c.f0 ≥ 64
      · rw [if_pos c1, if_pos (.inr (.inl c1))]
      · rw [if_neg c1]
        by_cases c2 : c.f1 < 0
        · rw [if_pos c2, if_pos (.inr (.inr (.inl c2)))]
        · rw [if_neg c2]
          by_cases c3 : c.f1 ≥ 48
          · rw [if_pos c3, if_pos (.inr (.inr (.inr (.inl c3))))]
          · have hw : wrap64 (wrap64 (c.f1 * 64) + c.f0) = 64 * c.f1 + c.f0 := by
              rw [wrapI (i := c.f1 * 64) (by omega) (by omega), wrapI (by omega) (by omega)]; omega
            rw [if_neg c3, hw, if_pos (by omega), if_pos (by omega)]
            by_cases c4 : rd x (64 * c.f1 + c.f0) = c.f2
            · rw [if_pos c4, if_neg (show ¬ (c.f0 < 0 ∨ c.f0 ≥ 64 ∨ c.f1 < 0 ∨ c.f1 ≥ 48 ∨ rd x (64 * c.f1 + c.f0) ≠ c.f2) by rintro (h | h | h | h | h) <;> first | omega | exact h c4), wrapL (by omega) (by omega), show (i : Int) + 1 = ((i + 1 : Nat) : Int) by omega]
              exact Ap_l0 l hl n q (i + 1) _ (by omega) (by rw [List.length_set]; exact hx)
            · rw [if_neg c4, if_pos (.inr (.inr (.inr (.inr c4))))]
/-- Apply of any bytes and any changes -/
def applyA (x : List Int) (l : List S51) : List Int × Int := if x.length = 3072 then apL x l else ([], 2)
theorem Apply_any (x : List Int) (l : List S51) (hl : l.length ≤ 4611686018427387900) (k : Nat) (hk : l.length + 1 ≤ k) : shot_Apply.f k x l = some (applyA x l) := by
  unfold applyA shot_Apply.f shot_screen.f
  by_cases hx : x.length = 3072
  · have e1 : ((x.length : Int) == 3072) = true := by rw [hx]; rfl
    have e2 : bytes_Clone.f x = some x := by unfold bytes_Clone.f; first | rfl | (rw [if_pos (by omega)])
    rw [if_pos hx, Option.bind_some, e1, if_pos rfl, e2, Option.bind_some]
    have h := Ap_l0 l hl l.length (k - (l.length + 1)) 0 x (by omega) hx
    rw [show l.length + 1 + (k - (l.length + 1)) = k by omega, List.drop_zero] at h
    exact h
  · have e1 : ((x.length : Int) == 3072) = false := beq_eq_false_iff_ne.2 (by omega)
    rw [if_neg hx, Option.bind_some, e1, if_neg (by decide)]
end Go.Proofs.YtpjdgndbcjinjaaDoor.P
