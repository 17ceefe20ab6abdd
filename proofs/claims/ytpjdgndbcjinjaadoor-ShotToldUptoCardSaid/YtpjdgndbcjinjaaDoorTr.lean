/- The document's tones, bytes and sum of an out, plainly; their contracts. -/
import Derived.Test.YtpjdgndbcjinjaaDoorTo
import Derived.Test.YtpjdgndbcjinjaaDoorFtn
import Derived.Test.YtpjdgndbcjinjaaDoorFby
import Derived.Test.YtpjdgndbcjinjaaDoorRs
import Derived.Lib.ItoaMem
namespace Go.Proofs.YtpjdgndbcjinjaaDoor.Pk
open Go.RowKit Go.Proofs.YtpjdgndbcjinjaaDoorW.PrintWords Go.Proofs.YtpjdgndbcjinjaaDoorW.PrintLast Go.Proofs.YtpjdgndbcjinjaaDoorW.PrintMore Go.Proofs.YtpjdgndbcjinjaaDoor.Mem
set_option linter.unusedVariables false
set_option linter.unusedSimpArgs false
def lowI : Nat → Int → List Int
  | 0, _ => []
  | n + 1, x => x % 256 :: lowI n (x / 256)
theorem low_l0 (n : Nat) (hn : n ≤ 8) : ∀ d (i k : Nat) (x : Int) (acc : List Int), i + d = n → 0 ≤ x → x ≤ 9223372036854775807 → acc.length ≤ i → d < k → P.wispref03_Low.l0 k x n acc i = some (acc ++ lowI d x) := by
  intro d
  induction d with
  | zero =>
    intro i k x acc hi h0 h1 ha hk
    obtain ⟨k, rfl⟩ : ∃ m, k = m + 1 := ⟨k - 1, by omega⟩
    simp only [P.wispref03_Low.l0]
    rw [if_neg (by omega)]
    simp [lowI]
  | succ d ih =>
    intro i k x acc hi h0 h1 ha hk
    obtain ⟨k, rfl⟩ : ∃ m, k = m + 1 := ⟨k - 1, by omega⟩
    have hw : wrap64 ((i : Int) + 1) = ((i + 1 : Nat) : Int) := by unfold wrap64; omega
    have hx : IntKind.u64.wrap (Int.tdiv x 256) = x / 256 := by
      rw [Int.tdiv_eq_ediv_of_nonneg h0]
      simp [IntKind.wrap, IntKind.bits, IntKind.signed]; omega
    have hm : (Int.tmod x 256) % 256 = x % 256 := by rw [Int.tmod_eq_emod_of_nonneg h0]; omega
    have hN := ih (i + 1) k (x / 256) (acc ++ [x % 256]) (by omega) (by omega) (by omega) (by simp; omega) (by omega)
    simp only [P.wispref03_Low.l0, hw, hx, hm]
    rw [if_pos (by omega), if_pos (by omega), hN]
    simp [lowI]
theorem low_n (n : Nat) (hn : n ≤ 8) (k : Nat) (hk : 8 < k) (x : Int) (h0 : 0 ≤ x) (h1 : x ≤ 9223372036854775807) : P.wispref03_Low.f k x n = some (lowI n x) := by
  unfold P.wispref03_Low.f
  have := low_l0 n hn n 0 k x [] (by omega) h0 h1 (by simp) (by omega)
  simpa using this
theorem four_f (k : Nat) (hk : 8 < k) (n : Int) : P.wispref20_four.f k n = some (wN n) := by
  unfold P.wispref20_four.f
  have h := low_n 4 (by omega) k hk (n % 4294967296) (by omega) (by omega)
  rw [show ((4 : Nat) : Int) = 4 from rfl] at h
  rw [h, Option.bind_some]
  congr 1
  simp only [lowI, wN, w4]
  generalize hx : n % 4294967296 = x
  have h0 : 0 ≤ x ∧ x < 4294967296 := by omega
  congr 1
  · omega
  congr 1
  · omega
  congr 1
  · omega
  congr 1
  omega
theorem two_f (k : Nat) (hk : 8 < k) (x : Int) (h0 : 0 ≤ x) (h1 : x ≤ 65535) : P.wispref03_Low.f k (IntKind.u64.wrap x) 2 = some [x % 256, x / 256] := by
  have e : IntKind.u64.wrap x = x := by simp [IntKind.wrap, IntKind.bits, IntKind.signed]; omega
  have h := low_n 2 (by omega) k hk x h0 (by omega)
  rw [show ((2 : Nat) : Int) = 2 from rfl] at h
  rw [e, h]
  simp only [lowI]
  rw [show x / 256 % 256 = x / 256 by omega]
def gT (x : ToneT) : P.S35 := ⟨x.1, x.2.1, x.2.2⟩
theorem C_gT {w : World} {A : Option Addr} {n : Nat} {xs : List ToneT} (h : kT.C w A n xs) : P.k35.C w A n (xs.map gT) := by
  obtain ⟨h1, h2, h3⟩ := h
  refine ⟨by rw [List.length_map]; exact h1, h2, fun hn => ?_⟩
  obtain ⟨ad, e, hc⟩ := h3 hn
  refine ⟨ad, e, fun j p hj => ?_⟩
  rw [List.getElem?_map] at hj
  obtain ⟨x, hx, rfl⟩ := Option.map_eq_some_iff.1 hj
  obtain ⟨cs, hl, hK, hcc⟩ := hc j x hx
  exact ⟨cs, hl, hK, hcc⟩
theorem rdT (es : List ToneT) (i : Nat) : P.rd_T35 (es.map gT) (i : Int) = gT (es.getD i (0, 0, 0)) := by
  unfold P.rd_T35
  rw [Int.toNat_natCast, List.getD_eq_getElem?_getD, List.getD_eq_getElem?_getD, List.getElem?_map]
  cases es[i]? <;> rfl
theorem bytes_l0 (o : OutP) (hu : ∀ t ∈ o.ts, 0 ≤ t.2.1 ∧ t.2.1 ≤ 65535) (hl : o.ts.length ≤ 100000000) (v0 v1 v2 v3 v4 : Int) (v5 : List Int) : ∀ d (i k : Nat) (acc : List Int), i + d = o.ts.length → acc.length ≤ 1000000000 + 7 * i → d + 9 < k →
    P.wispref20_Bytes.l0 k acc (i : Int) v0 v1 v2 v3 v4 v5 (o.ts.map gT) = some (acc ++ (o.ts.drop i).flatMap tB) := by
  intro d
  induction d with
  | zero =>
    intro i k acc hi ha hk
    obtain ⟨k, rfl⟩ : ∃ m, k = m + 1 := ⟨k - 1, by omega⟩
    simp only [P.wispref20_Bytes.l0]
    rw [if_neg (by rw [List.length_map]; omega), List.drop_of_length_le (by omega)]
    simp
  | succ d ih =>
    intro i k acc hi ha hk
    obtain ⟨k, rfl⟩ : ∃ m, k = m + 1 := ⟨k - 1, by omega⟩
    have hw : wrap64 ((i : Int) + 1) = ((i + 1 : Nat) : Int) := by unfold wrap64; omega
    have hlt : i < o.ts.length := by omega
    have hg : o.ts.getD i (0, 0, 0) = o.ts[i] := by rw [List.getD_eq_getElem?_getD, List.getElem?_eq_getElem hlt]; rfl
    have hu2 := hu _ (List.getElem_mem hlt)
    have hN := ih (i + 1) k (((acc ++ wN (o.ts[i]).1) ++ [(o.ts[i]).2.1 % 256, (o.ts[i]).2.1 / 256]) ++ [(o.ts[i]).2.2]) (by omega) (by simp only [List.length_append, wN_len, List.length_cons, List.length_nil]; omega) (by omega)
    simp only [P.wispref20_Bytes.l0, hw, rdT, hg, gT]
    rw [if_pos (by rw [List.length_map]; omega), if_pos (by omega), four_f k (by omega), two_f k (by omega) _ hu2.1 hu2.2]
    simp only [Option.bind_some]
    rw [if_pos (by simp only [wN_len]; omega), if_pos (by simp only [List.length_append, wN_len, List.length_cons, List.length_nil]; omega), if_pos (by simp only [List.length_append, wN_len, List.length_cons, List.length_nil]; omega)]
    refine hN.trans ?_
    rw [List.drop_eq_getElem_cons hlt, List.flatMap_cons, tB]
    simp only [List.append_assoc, List.cons_append, List.nil_append]
theorem bytes_f (o : OutP) (hu : ∀ t ∈ o.ts, 0 ≤ t.2.1 ∧ t.2.1 ≤ 65535) (hl : o.ts.length ≤ 100000000) (h5 : o.scr.length ≤ 100000000) : P.wispref20_Bytes.f 100000020 o.st o.fl o.steps o.spent o.idle o.scr (o.ts.map gT) = some (digB o) := by
  unfold P.wispref20_Bytes.f
  simp only [four_f 100000020 (by omega), Option.bind_some]
  rw [if_pos (by simp only [wN_len]; omega), if_pos (by simp only [List.length_append, wN_len]; omega), if_pos (by simp only [List.length_append, wN_len]; omega), if_pos (by simp only [List.length_append, wN_len]; omega), if_pos (by simp only [List.length_append, wN_len]; omega), if_pos (by simp only [List.length_append, wN_len]; omega), if_pos (by simp only [List.length_append, wN_len]; omega)]
  have h := bytes_l0 o hu hl o.st o.fl o.steps o.spent o.idle o.scr o.ts.length 0 100000020 (((((((wN o.st ++ wN o.fl) ++ wN o.steps) ++ wN o.spent) ++ wN o.idle) ++ wN (o.scr.length : Int)) ++ o.scr) ++ wN ((o.ts.map gT).length : Int)) (by omega) (by simp only [List.length_append, wN_len]; omega) (by omega)
  refine h.trans ?_
  rw [List.drop_zero, List.length_map]
  simp [digB, hdB, six]
theorem strOf_add (xs ys : List Int) : strOfNums xs ++ strOfNums ys = strOfNums (xs ++ ys) := by
  apply ByteArray.ext
  simp [strOfNums, ByteArray.data_append]
theorem strOf_size (xs : List Int) : (strOfNums xs).size = xs.length := by simp [strOfNums, ByteArray.size]
theorem dig_small (u : Nat) (h : u < 10) : itB (u : Int) = [48 + (u : Int)] := by
  rw [itB, Lib.itoa_nonneg, Lib.decDigits, dif_pos h]
  have : (UInt8.ofNat (48 + u)).toNat = 48 + u := by rw [UInt8.toNat_ofNat']; omega
  rw [List.map_cons, List.map_nil, this]
  simp
theorem dig_step (u : Nat) (h : ¬ u < 10) : itB (u : Int) = itB ((u / 10 : Nat) : Int) ++ [48 + ((u % 10 : Nat) : Int)] := by
  rw [itB, itB, Lib.itoa_nonneg, Lib.itoa_nonneg, Lib.decDigits, dif_neg h, List.map_append]
  have : (UInt8.ofNat (48 + u % 10)).toNat = 48 + u % 10 := by rw [UInt8.toNat_ofNat']; omega
  rw [List.map_cons, List.map_nil, this]
  simp
theorem dig_neg (u : Nat) (h : 1 ≤ u) : itB (-(u : Int)) = 45 :: itB (u : Int) := by
  rw [itB, itB, Lib.itoa_neg u h, Lib.itoa_nonneg]
  rfl
theorem dec_pos : ∀ (k u : Nat), u < 10 ^ (k + 1) → u ≤ 9223372036854775807 → P.wispref20_decimal.f (k + 1) (u : Int) = some (strOfNums (itB (u : Int)))
  | k, u, hu, hm => by
    have hw : (wrap64 (48 + Int.tmod (u : Int) 10)) % 256 = 48 + ((u % 10 : Nat) : Int) := by
      rw [Int.tmod_eq_emod_of_nonneg (by omega)]
      unfold wrap64
      omega
    simp only [P.wispref20_decimal.f]
    rw [if_neg (by omega), hw, Option.bind_some]
    by_cases h : u < 10
    · rw [if_neg (by omega), dig_small u h, show ((u % 10 : Nat) : Int) = (u : Int) by omega]
    · rw [if_pos (by omega)]
      have hq : wrap64 (Int.tdiv (u : Int) 10) = ((u / 10 : Nat) : Int) := by
        rw [Int.tdiv_eq_ediv_of_nonneg (by omega)]
        unfold wrap64
        omega
      cases k with
      | zero => omega
      | succ k =>
        have ih := dec_pos k (u / 10) (by rw [Nat.pow_succ] at hu; omega) (by omega)
        have hl := itB_len (n := ((u / 10 : Nat) : Int)) (by omega) (by omega)
        rw [hq, ih, Option.bind_some, if_pos (by rw [strOf_size, strOf_size, List.length_singleton]; omega), strOf_add, dig_step u h]
theorem dec_min : strOfNums (itB (-9223372036854775808)) = (⟨#[45, 57, 50, 50, 51, 51, 55, 50, 48, 51, 54, 56, 53, 52, 55, 55, 53, 56, 48, 56]⟩ : ByteArray) := by
  rw [show (-9223372036854775808 : Int) = -((9223372036854775808 : Nat) : Int) by decide, dig_neg _ (by decide)]
  rw [dig_step 9223372036854775808 (by decide), show 9223372036854775808 / 10 = 922337203685477580 by decide, dig_step 922337203685477580 (by decide), show 922337203685477580 / 10 = 92233720368547758 by decide, dig_step 92233720368547758 (by decide), show 92233720368547758 / 10 = 9223372036854775 by decide, dig_step 9223372036854775 (by decide), show 9223372036854775 / 10 = 922337203685477 by decide, dig_step 922337203685477 (by decide), show 922337203685477 / 10 = 92233720368547 by decide, dig_step 92233720368547 (by decide), show 92233720368547 / 10 = 9223372036854 by decide, dig_step 9223372036854 (by decide), show 9223372036854 / 10 = 922337203685 by decide, dig_step 922337203685 (by decide), show 922337203685 / 10 = 92233720368 by decide, dig_step 92233720368 (by decide), show 92233720368 / 10 = 9223372036 by decide, dig_step 9223372036 (by decide), show 9223372036 / 10 = 922337203 by decide, dig_step 922337203 (by decide), show 922337203 / 10 = 92233720 by decide, dig_step 92233720 (by decide), show 92233720 / 10 = 9223372 by decide, dig_step 9223372 (by decide), show 9223372 / 10 = 922337 by decide, dig_step 922337 (by decide), show 922337 / 10 = 92233 by decide, dig_step 92233 (by decide), show 92233 / 10 = 9223 by decide, dig_step 9223 (by decide), show 9223 / 10 = 922 by decide, dig_step 922 (by decide), show 922 / 10 = 92 by decide, dig_step 92 (by decide), show 92 / 10 = 9 by decide, dig_small 9 (by decide)]
  decide +kernel
theorem dec_f (n : Int) (h0 : -9223372036854775808 ≤ n) (h1 : n ≤ 9223372036854775807) (k : Nat) (hk : 25 ≤ k) : P.wispref20_decimal.f k n = some (strOfNums (itB n)) := by
  obtain ⟨k, rfl⟩ : ∃ m, k = m + 1 := ⟨k - 1, by omega⟩
  obtain ⟨k, rfl⟩ : ∃ m, k = m + 1 := ⟨k - 1, by omega⟩
  have hp : (9223372036854775807 : Nat) < 10 ^ (k + 1) := Nat.lt_of_lt_of_le (by decide : (9223372036854775807 : Nat) < 10 ^ 20) (Nat.pow_le_pow_right (by decide) (by omega))
  by_cases hn : 0 ≤ n
  · obtain ⟨u, rfl⟩ := Int.eq_ofNat_of_zero_le hn
    refine dec_pos (k + 1) u ?_ (by omega)
    have : 10 ^ (k + 1) ≤ 10 ^ (k + 1 + 1) := Nat.pow_le_pow_right (by decide) (by omega)
    omega
  · by_cases hm : n = -9223372036854775808
    · subst hm
      rw [dec_min]
      simp only [P.wispref20_decimal.f]
      rw [if_pos (by decide), if_pos (by unfold wrap64; omega)]
    · obtain ⟨u, hu⟩ := Int.eq_ofNat_of_zero_le (show 0 ≤ -n by omega)
      have hw : wrap64 (-n) = (u : Int) := by unfold wrap64; omega
      have ih := dec_pos k u (by omega) (by omega)
      have hl := itB_len (n := (u : Int)) (by omega) (by omega)
      rw [P.wispref20_decimal.f]
      rw [if_pos (by omega), hw, if_neg (by omega), ih, Option.bind_some, if_pos (by rw [strOf_size]; omega), show n = -(u : Int) by omega, dig_neg u (by omega), show (⟨#[45]⟩ : ByteArray) = strOfNums [45] by decide +kernel, strOf_add]
      rfl
theorem s32 : (⟨#[32]⟩ : ByteArray) = strOfNums [32] := by decide +kernel
theorem s10 : (⟨#[10]⟩ : ByteArray) = strOfNums [10] := by decide +kernel
theorem tones_l0 (ts : List ToneT) (hw : TnW ts) (hl : ts.length ≤ 100000000) : ∀ d (i k : Nat) (acc : List Int), i + d = ts.length → acc.length ≤ 66 * i → d + 25 < k →
    P.wispref20_Tones.l0 k (ts.map gT) (strOfNums acc) (i : Int) = some (strOfNums (acc ++ tnsB (ts.drop i))) := by
  intro d
  induction d with
  | zero =>
    intro i k acc hi ha hk
    obtain ⟨k, rfl⟩ : ∃ m, k = m + 1 := ⟨k - 1, by omega⟩
    simp only [P.wispref20_Tones.l0]
    rw [if_neg (by rw [List.length_map]; omega), List.drop_of_length_le (by omega)]
    simp [tnsB]
  | succ d ih =>
    intro i k acc hi ha hk
    obtain ⟨k, rfl⟩ : ∃ m, k = m + 1 := ⟨k - 1, by omega⟩
    have hwi : wrap64 ((i : Int) + 1) = ((i + 1 : Nat) : Int) := by unfold wrap64; omega
    have hlt : i < ts.length := by omega
    have hg : ts.getD i (0, 0, 0) = ts[i] := by rw [List.getD_eq_getElem?_getD, List.getElem?_eq_getElem hlt]; rfl
    have hu := hw _ (List.getElem_mem hlt)
    obtain ⟨⟨u0, u1⟩, u2, u3, u4, u5⟩ := hu
    have l0 := itB_len u0 u1
    have l1 := itB_len (n := (ts[i]).2.1) (by omega) (by omega)
    have l2 := itB_len (n := (ts[i]).2.2) (by omega) (by omega)
    have hN := ih (i + 1) k (acc ++ tnB (ts[i])) (by omega) (by have := tnB_len (hw _ (List.getElem_mem hlt)); rw [List.length_append]; omega) (by omega)
    have e1 : wrap64 (ts[i]).2.1 = (ts[i]).2.1 := by unfold wrap64; omega
    have e2 : wrap64 (ts[i]).2.2 = (ts[i]).2.2 := by unfold wrap64; omega
    simp only [P.wispref20_Tones.l0, hwi, rdT, hg, gT, e1, e2, s32, s10]
    rw [if_pos (by rw [List.length_map]; omega), if_pos (by omega), dec_f _ u0 u1 k (by omega), dec_f _ (by omega) (by omega) k (by omega), dec_f _ (by omega) (by omega) k (by omega)]
    simp only [Option.bind_some, strOf_add, strOf_size]
    iterate 6 (refine (if_pos (by (try simp only [List.length_append, List.length_cons, List.length_nil]); omega)).trans ?_)
    refine Eq.trans ?_ (hN.trans ?_)
    · simp [tnB]
    · rw [List.drop_eq_getElem_cons hlt, List.append_assoc]; rfl
theorem tones_f (ts : List ToneT) (hw : TnW ts) (hl : ts.length ≤ 100000000) : P.wispref20_Tones.f 100000040 (ts.map gT) = some (strOfNums (tnsB ts)) := by
  have h := tones_l0 ts hw hl ts.length 0 100000040 [] (by omega) (by simp) (by omega)
  rw [List.drop_zero, List.nil_append] at h
  exact h
theorem RTones {w : World} {A : Option Addr} {n c : Nat} {ts : List ToneT} (hC : kT.C w A n ts) (hn : n = ts.length) (hc : n ≤ c) (hw : TnW ts) (hl : n ≤ 100000000) :
    Calls Tryd.prog 10 #[.slice A n c] w fun e w' => e = .returned (.string (strOfNums (tnsB ts))) ∧ Below w.heap.size w w' := by
  subst hn
  have := P.wispref20_Tones.calls 100000040 A c (ts.map gT) (strOfNums (tnsB ts)) w (by rw [List.length_map]; exact C_gT hC) (by rw [List.length_map]; exact hc) (tones_f ts hw hl)
  rw [List.length_map] at this
  exact this
end Go.Proofs.YtpjdgndbcjinjaaDoor.Pk
