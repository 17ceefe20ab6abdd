/- There and back, in plain numbers: bytes of a number and numbers of bytes. -/
import Derived.Test.YtgnjlgfnpfjjnaaDoorLy
import Derived.Test.YtgnjlgfnpfjjnaaDoorRn
namespace Go.Proofs.YtgnjlgfnpfjjnaaDoor.Pk
open Go.RowKit Go.Proofs.YtgnjlgfnpfjjnaaDoorW.PrintWords Go.Proofs.YtgnjlgfnpfjjnaaDoorW.PrintLast Go.Proofs.YtgnjlgfnpfjjnaaDoorW.PrintMore Go.Proofs.YtgnjlgfnpfjjnaaDoor.Mem
set_option linter.unusedVariables false
set_option linter.unusedSimpArgs false
theorem or32 (a b : Nat) (ha : a < 4294967296) (hb : b < 4294967296) : Go.bits .or .u32 a b = ((a ||| b : Nat) : Int) := by
  unfold Go.bits
  rw [IntKind.wrap_u32]
  have ta : (BitVec.ofInt 32 (a : Int)).toNat = a := by simp; omega
  have tb : (BitVec.ofInt 32 (b : Int)).toNat = b := by simp; omega
  show (((BitVec.ofInt 32 (a : Int) ||| BitVec.ofInt 32 (b : Int)).toNat : Nat) : Int) % 4294967296 = _
  rw [BitVec.toNat_or, ta, tb]
  have : a ||| b < 4294967296 := Nat.or_lt_two_pow (n := 32) ha hb
  omega
theorem or64 (a b : Nat) (ha : a < 9223372036854775808) (hb : b < 9223372036854775808) : Go.bits .or .i64 a b = ((a ||| b : Nat) : Int) := by
  unfold Go.bits
  rw [i64_w]
  have ta : (BitVec.ofInt 64 (a : Int)).toNat = a := by simp; omega
  have tb : (BitVec.ofInt 64 (b : Int)).toNat = b := by simp; omega
  show wrap64 (((BitVec.ofInt 64 (a : Int) ||| BitVec.ofInt 64 (b : Int)).toNat : Nat) : Int) = _
  have : a ||| b < 9223372036854775808 := Nat.or_lt_two_pow (n := 63) ha hb
  rw [BitVec.toNat_or, ta, tb]
  unfold wrap64
  omega
theorem or_add (a b i : Nat) (ha : a < 2 ^ i) : a ||| (b * 2 ^ i) = a + b * 2 ^ i := by
  rw [Nat.mul_comm, Nat.or_comm, ← Nat.two_pow_add_eq_or_of_lt ha b, Nat.add_comm]
/-- the number of bytes, the lowest first -/
def valI : List Int → Int
  | [] => 0
  | b :: l => b + 256 * valI l
theorem valI_b : ∀ l, allB l → 0 ≤ valI l ∧ valI l < 256 ^ l.length
  | [], _ => ⟨by decide, by decide⟩
  | b :: l, h => by
    have h1 := valI_b l (fun y hy => h y (by simp [hy]))
    have h2 := h b (by simp)
    unfold isB at h2
    have e : (256 : Int) ^ (b :: l).length = 256 * 256 ^ l.length := by rw [List.length_cons, Int.pow_succ, Int.mul_comm]
    rw [e]
    simp only [valI]
    omega
theorem lowI_val : ∀ l, allB l → lowI l.length (valI l) = l
  | [], _ => rfl
  | b :: l, h => by
    have h1 := lowI_val l (fun y hy => h y (by simp [hy]))
    have h2 := h b (by simp)
    unfold isB at h2
    simp only [List.length_cons, lowI, valI]
    rw [show (b + 256 * valI l) % 256 = b by omega, show (b + 256 * valI l) / 256 = valI l by omega, h1]
theorem lowI_B : ∀ k x, allB (lowI k x)
  | 0, _ => fun y hy => by simp [lowI] at hy
  | k + 1, x => fun y hy => by
    simp only [lowI, List.mem_cons] at hy
    rcases hy with rfl | hy
    · exact ⟨by omega, by omega⟩
    · exact lowI_B k _ y hy
theorem orL_val : ∀ (l : List Int) (i x : Nat), allB l → i + l.length ≤ 4 → x < 2 ^ (8 * i) → orL i l (x : Int) = (x : Int) + valI l * 2 ^ (8 * i)
  | [], i, x, _, _, _ => by simp [orL, valI]
  | b :: l, i, x, hb, hl, hx => by
    have h2 := hb b (by simp)
    unfold isB at h2
    obtain ⟨c, rfl⟩ := Int.eq_ofNat_of_zero_le h2.1
    have hc : c < 256 := by omega
    simp only [List.length_cons] at hl
    have hi : i ≤ 3 := by omega
    have hp : (2 : Nat) ^ (8 * i) ≤ 2 ^ 24 := Nat.pow_le_pow_right (by decide) (by omega)
    have hcp : c * 2 ^ (8 * i) ≤ 255 * 2 ^ (8 * i) := Nat.mul_le_mul_right _ (by omega)
    have hq : ∃ q : Nat, q = 2 ^ (8 * i) := ⟨_, rfl⟩
    obtain ⟨q, hq⟩ := hq
    have eI : (2 : Int) ^ (8 * i) = (q : Int) := by rw [hq]; push_cast; rfl
    have e1 : ((c : Int) % 4294967296 * 2 ^ (8 * i) % 4294967296) = ((c * q : Nat) : Int) := by
      rw [eI]
      have : c * q < 4294967296 := by rw [hq]; omega
      rw [show (c : Int) % 4294967296 = c by omega, ← Int.natCast_mul]
      omega
    have hlt : x + c * q < 2 ^ (8 * (i + 1)) := by
      have : (2 : Nat) ^ (8 * (i + 1)) = 256 * q := by rw [hq, show 8 * (i + 1) = 8 * i + 8 by omega, Nat.pow_add, Nat.mul_comm]
      rw [this]
      have : c * q ≤ 255 * q := Nat.mul_le_mul_right _ (by omega)
      omega
    simp only [orL]
    have hs : Go.bits .or .u32 (x : Int) ((c : Int) % 4294967296 * 2 ^ (8 * i) % 4294967296) = ((x + c * q : Nat) : Int) := by
      rw [e1, or32 x (c * q) (by omega) (by rw [hq]; omega), hq, or_add x c (8 * i) hx]
    rw [hs, orL_val l (i + 1) (x + c * q) (fun y hy => hb y (by simp [hy])) (by omega) hlt]
    have eI2 : (2 : Int) ^ (8 * (i + 1)) = 256 * (q : Int) := by rw [show 8 * (i + 1) = 8 * i + 8 by omega, Int.pow_add, eI]; show (q : Int) * 256 = 256 * (q : Int); omega
    rw [eI2, eI]
    simp only [valI]
    push_cast
    rw [Int.add_mul, Int.add_assoc, Int.mul_comm 256 (valI l), Int.mul_assoc]
theorem or_val {l : List Int} (h : allB l) (hl : l.length ≤ 4) : orL 0 l 0 = valI l := by
  have := orL_val l 0 0 h (by omega) (by decide)
  simpa using this
theorem val_low : ∀ k x, valI (lowI k x) = x % 256 ^ k
  | 0, x => by simp [lowI, valI]
  | k + 1, x => by
    simp only [lowI, valI]
    rw [val_low k]
    have e : (256 : Int) ^ (k + 1) = 256 * 256 ^ k := by rw [Int.pow_succ, Int.mul_comm]
    rw [e]
    have hp : (0 : Int) < 256 ^ k := Int.pow_pos (by decide)
    generalize (256 : Int) ^ k = m at hp
    have h1 := Int.mul_ediv_add_emod (x / 256) m
    have h2 := Int.mul_ediv_add_emod x 256
    have h3 := Int.emod_nonneg (x / 256) (show m ≠ 0 by omega)
    have h4 := Int.emod_lt_of_pos (x / 256) hp
    have h5 : 0 ≤ x % 256 ∧ x % 256 < 256 := by omega
    generalize x / 256 % m = r at h1 h3 h4
    generalize x / 256 / m = q at h1
    generalize x / 256 = y at h1 h2
    generalize x % 256 = z at h2 h5
    have e1 : x = (z + 256 * r) + 256 * m * q := by rw [Int.mul_assoc]; omega
    rw [e1, Int.add_mul_emod_self_left, Int.emod_eq_of_lt (by omega) (by omega)]
theorem and_127 : ∀ b : Fin 256, Go.bits .and .u8 (b.val : Int) 127 = (b.val : Int) % 128 := by decide +kernel
theorem and127 {b : Int} (h : isB b) : Go.bits .and .u8 b 127 = b % 128 := by
  unfold isB at h
  obtain ⟨n, rfl⟩ := Int.eq_ofNat_of_zero_le h.1
  exact and_127 ⟨n, by omega⟩
theorem orN_val {i : Nat} {b x : Int} (hi : i ≤ 4) (hb : isB b) (hx0 : 0 ≤ x) (hx : x < 2 ^ (7 * i)) : orN i b x = x + b % 128 * 2 ^ (7 * i) := by
  unfold orN
  rw [and127 hb]
  have hp : (2 : Nat) ^ (7 * i) ≤ 2 ^ 28 := Nat.pow_le_pow_right (by decide) (by omega)
  obtain ⟨q, hq⟩ : ∃ q : Nat, q = 2 ^ (7 * i) := ⟨_, rfl⟩
  have eI : (2 : Int) ^ (7 * i) = (q : Int) := by rw [hq]; push_cast; rfl
  rw [eI] at hx ⊢
  obtain ⟨c, hc⟩ := Int.eq_ofNat_of_zero_le (show 0 ≤ b % 128 by omega)
  obtain ⟨y, rfl⟩ := Int.eq_ofNat_of_zero_le hx0
  have hc1 : c < 128 := by omega
  have hcp : c * q ≤ 127 * q := Nat.mul_le_mul_right _ (by omega)
  rw [hc]
  have e1 : wrap64 (wrap64 (c : Int) * (q : Int)) = ((c * q : Nat) : Int) := by
    have e2 : wrap64 (c : Int) = c := by unfold wrap64; omega
    rw [e2, ← Int.natCast_mul]
    unfold wrap64
    omega
  rw [e1, or64 y (c * q) (by omega) (by omega), hq, or_add y c (7 * i) (by omega)]
  push_cast
  rfl
theorem pow7 (i : Nat) : (2 : Int) ^ (7 * (i + 1)) = 128 * 2 ^ (7 * i) := by rw [show 7 * (i + 1) = 7 * i + 7 by omega, Int.pow_add, Int.mul_comm]; rfl
theorem two_pow_pos (i : Nat) : (0 : Int) < 2 ^ i := Int.pow_pos (by decide)
theorem num_fwd : ∀ (k i : Nat) (y x : Int) (rest : List Int), i + k = 4 → 0 ≤ x → x < 2 ^ (7 * i) → 0 ≤ y → y < 16 * (128 : Int) ^ k → (i = 0 ∨ 0 < y) → numR (k + 1) i (vl k y ++ rest) x = (x + y * 2 ^ (7 * i), 0, i + (vl k y).length)
  | 0, i, y, x, rest, hi, hx0, hx, hy0, hy, h0 => by
    rw [Int.pow_zero] at hy
    have hi4 : i = 4 := by omega
    subst hi4
    have e : vl 0 y = [y] := by simp only [vl]; rw [show y % 256 = y by omega]
    rw [e]
    show numR 1 4 (y :: rest) x = _
    have ho := orN_val (i := 4) (b := y) (by decide) ⟨hy0, by omega⟩ hx0 hx
    rw [numR_step ho, if_neg (by omega), if_neg]
    · rw [show y % 128 = y by omega]; rfl
    · rw [show (2 : Int) ^ (7 * 4) = 268435456 by decide] at hx ⊢
      rintro (h | h)
      · omega
      · exact h (by omega)
  | k + 1, i, y, x, rest, hi, hx0, hx, hy0, hy, h0 => by
    by_cases hc : y ≥ 128
    · have hb := or128 y
      have hB : isB (y % 128 + 128) := ⟨by omega, by omega⟩
      have ho := orN_val (i := i) (b := y % 128 + 128) (by omega) hB hx0 hx
      rw [show (y % 128 + 128) % 128 = y % 128 by omega] at ho
      have e : vl (k + 1) y = (y % 128 + 128) :: vl k (y / 128) := by simp only [vl]; rw [if_pos hc, hb]
      rw [e]
      show numR (k + 1 + 1) i ((y % 128 + 128) :: (vl k (y / 128) ++ rest)) x = _
      have hm : y % 128 * 2 ^ (7 * i) ≤ 127 * 2 ^ (7 * i) := Int.mul_le_mul_of_nonneg_right (by omega) (Int.le_of_lt (two_pow_pos _))
      have hm0 : 0 ≤ y % 128 * 2 ^ (7 * i) := Int.mul_nonneg (by omega) (Int.le_of_lt (two_pow_pos _))
      rw [numR_step ho, if_pos (by omega), num_fwd k (i + 1) (y / 128) _ rest (by omega) (by omega) (by rw [pow7]; omega) (by omega) (pow_step k y hy0 hy) (.inr (by omega)), pow7]
      have e2 : y * 2 ^ (7 * i) = y % 128 * 2 ^ (7 * i) + y / 128 * (128 * 2 ^ (7 * i)) := by
        rw [← Int.mul_assoc, ← Int.add_mul]
        congr 1
        omega
      refine Prod.ext ?_ (Prod.ext rfl ?_)
      · show x + y % 128 * 2 ^ (7 * i) + y / 128 * (128 * 2 ^ (7 * i)) = x + y * 2 ^ (7 * i)
        omega
      · show i + 1 + (vl k (y / 128)).length = i + ((y % 128 + 128) :: vl k (y / 128)).length
        rw [List.length_cons]; omega
    · have e : vl (k + 1) y = [y] := by simp only [vl]; rw [if_neg hc, show y % 256 = y by omega]
      rw [e]
      show numR (k + 1 + 1) i (y :: rest) x = _
      have ho := orN_val (i := i) (b := y) (by omega) ⟨hy0, by omega⟩ hx0 hx
      rw [show y % 128 = y by omega] at ho
      have hp : (2 : Nat) ^ (7 * i) ≤ 2 ^ 21 := Nat.pow_le_pow_right (by decide) (by omega)
      have hp2 : (2 : Int) ^ (7 * i) ≤ 2097152 := by
        obtain ⟨q, hq⟩ : ∃ q : Nat, q = 2 ^ (7 * i) := ⟨_, rfl⟩
        rw [show (2 : Int) ^ (7 * i) = (q : Int) by rw [hq]; push_cast; rfl]
        have e21 : (2 : Nat) ^ 21 = 2097152 := rfl
        rw [← hq, e21] at hp
        omega
      have hm : y * 2 ^ (7 * i) ≤ 127 * 2 ^ (7 * i) := Int.mul_le_mul_of_nonneg_right (by omega) (Int.le_of_lt (two_pow_pos _))
      have hm0 : 0 ≤ y * 2 ^ (7 * i) := Int.mul_nonneg (by omega) (Int.le_of_lt (two_pow_pos _))
      rw [numR_step ho, if_neg (by omega), if_neg]
      · rfl
      · rintro (h | h)
        · omega
        · exact h (by omega)
theorem num_there (n : Int) (rest : List Int) : numF (numOf n ++ rest) 0 = (n % 4294967296, 0, (numOf n).length) := by
  have h := num_fwd 4 0 (n % 4294967296) 0 rest rfl (by decide) (by decide) (by omega) (by rw [show (16 * (128 : Int) ^ 4) = 4294967296 by decide]; omega) (.inl rfl)
  unfold numF numOf
  rw [if_pos rfl, h]
  simp
theorem num_back : ∀ (k i : Nat) (l : List Int) (x v : Int) (m : Nat), i + k = 4 → allB l → 0 ≤ x → x < 2 ^ (7 * i) → numR (k + 1) i l x = (v, 0, m) →
    ∃ y, 0 ≤ y ∧ y < 16 * (128 : Int) ^ k ∧ (i = 0 ∨ 0 < y) ∧ v = x + y * 2 ^ (7 * i) ∧ m = i + (vl k y).length ∧ l.take (vl k y).length = vl k y ∧ (vl k y).length ≤ l.length
  | k, i, [], x, v, m, hi, hl, hx0, hx, h => by
    simp only [numR] at h
    injection h with _ h; injection h with h _; cases h
  | k, i, b :: t, x, v, m, hi, hl, hx0, hx, h => by
    have hb := hl b (by simp)
    have hbb := hb
    unfold isB at hbb
    have ho := orN_val (i := i) (by omega) hb hx0 hx
    rw [numR_step ho] at h
    have hm : b % 128 * 2 ^ (7 * i) ≤ 127 * 2 ^ (7 * i) := Int.mul_le_mul_of_nonneg_right (by omega) (Int.le_of_lt (two_pow_pos _))
    have hm0 : 0 ≤ b % 128 * 2 ^ (7 * i) := Int.mul_nonneg (by omega) (Int.le_of_lt (two_pow_pos _))
    by_cases hc : b ≥ 128
    · rw [if_pos hc] at h
      cases k with
      | zero =>
        simp only [numR] at h
        injection h with _ h; injection h with h _; cases h
      | succ k =>
        obtain ⟨y, hy0, hy, hy1, hv, hm2, ht, hle⟩ := num_back k (i + 1) t _ v m (by omega) (fun z hz => hl z (by simp [hz])) (by omega) (by rw [pow7]; omega) h
        have hy2 : 0 < y := by omega
        have hr := or128 (b % 128 + 128 * y)
        have e : vl (k + 1) (b % 128 + 128 * y) = b :: vl k y := by
          simp only [vl]
          rw [if_pos (by omega), hr, show (b % 128 + 128 * y) / 128 = y by omega, show (b % 128 + 128 * y) % 128 + 128 = b by omega]
        refine ⟨b % 128 + 128 * y, by omega, ?_, .inr (by omega), ?_, ?_, ?_, ?_⟩
        · have e4 : (128 : Int) ^ (k + 1) = 128 * 128 ^ k := by rw [Int.pow_succ, Int.mul_comm]
          rw [e4]
          omega
        · rw [hv, pow7, Int.add_mul, Int.mul_comm 128 y, Int.mul_assoc]
          omega
        · rw [e, hm2, List.length_cons]; omega
        · rw [e, List.length_cons, List.take_succ_cons, ht]
        · rw [e, List.length_cons, List.length_cons]; omega
    · rw [if_neg hc] at h
      by_cases hz : (b = 0 ∧ 0 < i) ∨ (x + b % 128 * 2 ^ (7 * i)) / 4294967296 ≠ 0
      · rw [if_pos hz] at h
        injection h with _ h; injection h with h _; cases h
      · rw [if_neg hz] at h
        injection h with h1 h; injection h with _ h2
        have e : vl k b = [b] := by
          cases k with
          | zero => simp only [vl]; rw [show b % 256 = b by omega]
          | succ k => simp only [vl]; rw [if_neg hc, show b % 256 = b by omega]
        refine ⟨b, hbb.1, ?_, ?_, ?_, ?_, ?_, ?_⟩
        · cases k with
          | zero =>
            have hi4 : i = 4 := by omega
            subst hi4
            rw [show (2 : Int) ^ (7 * 4) = 268435456 by decide] at hz hx
            rw [Int.pow_zero]
            omega
          | succ k =>
            have e4 : (128 : Int) ^ (k + 1) = 128 * 128 ^ k := by rw [Int.pow_succ, Int.mul_comm]
            have hp : (0 : Int) < 128 ^ k := Int.pow_pos (by decide)
            rw [e4]
            omega
        · rcases Nat.eq_zero_or_pos i with h9 | h9
          · exact .inl h9
          · exact .inr (by omega)
        · rw [← h1, show b % 128 = b by omega]
        · rw [e, ← h2]; rfl
        · rw [e]; rfl
        · rw [e]; simp
theorem num_here {l : List Int} {v : Int} {m : Nat} (hl : allB l) (h : numF l 0 = (v, 0, m)) : numOf v = l.take m ∧ m ≤ l.length := by
  unfold numF at h
  rw [if_pos rfl] at h
  obtain ⟨y, hy0, hy, _, hv, hm, ht, hle⟩ := num_back 4 0 l 0 v m rfl hl (by decide) (by decide) h
  rw [show (16 * (128 : Int) ^ 4) = 4294967296 by decide] at hy
  have hvy : v = y := by rw [hv]; simp
  have hm2 : m = (vl 4 y).length := by omega
  subst hvy
  unfold numOf
  rw [show v % 4294967296 = v by omega, hm2]
  exact ⟨ht.symm, hle⟩
theorem taken (a rest : List Int) {k : Int} (hk : k = a.length) : takeL (a ++ rest) 0 k = a ∧ leftL (a ++ rest) 0 k = rest ∧ errL (a ++ rest) 0 k = 0 := by
  subst hk
  have h : (0 : Int) = 0 ∧ (0 : Int) ≤ (a.length : Int) ∧ (a.length : Int) ≤ ((a ++ rest).length : Int) := ⟨rfl, by omega, by rw [List.length_append]; omega⟩
  refine ⟨?_, ?_, ?_⟩
  · unfold takeL; rw [if_pos h, Int.toNat_natCast, List.take_left' rfl]
  · unfold leftL; rw [if_pos h, Int.toNat_natCast, List.drop_left' rfl]
  · unfold errL; rw [if_neg (fun h2 => h2.2 h.2)]
section
variable {W : World} {B g : Nat} {ok : Nat → Prop} {rest bs : List Int}
theorem back1 (n : Int) (hR : IsR W B ok g (lowI 1 (n % 18446744073709551616) ++ rest) 0) :
    Calls Tryd.prog 25 #[.pointer (some ⟨g, 0, none⟩)] W fun e w' => e = .returned (.int .u8 (n % 256)) ∧ IsR w' B ok g rest 0 ∧ Fr W w' (fun k => k = g) := by
  obtain ⟨h1, h2, h3⟩ := taken (lowI 1 (n % 18446744073709551616)) rest (k := 1) (by rw [lowI_len]; rfl)
  have h := RByte hR
  rw [h1, h2, h3, or_val (lowI_B _ _) (by rw [lowI_len]; decide), val_low, show n % 18446744073709551616 % 256 ^ 1 % 256 = n % 256 by rw [Int.pow_one]; omega] at h
  exact h
theorem back2 (n : Int) (hR : IsR W B ok g (lowI 2 (n % 18446744073709551616) ++ rest) 0) :
    Calls Tryd.prog 28 #[.pointer (some ⟨g, 0, none⟩)] W fun e w' => e = .returned (.int .u16 (n % 65536)) ∧ IsR w' B ok g rest 0 ∧ Fr W w' (fun k => k = g) := by
  obtain ⟨h1, h2, h3⟩ := taken (lowI 2 (n % 18446744073709551616)) rest (k := 2) (by rw [lowI_len]; rfl)
  have h := RCell hR
  rw [h1, h2, h3, or_val (lowI_B _ _) (by rw [lowI_len]; decide), val_low, IntKind.wrap_u16, show (256 : Int) ^ 2 = 65536 by decide, show n % 18446744073709551616 % 65536 % 65536 = n % 65536 by omega] at h
  exact h
theorem back3 (n : Int) (hR : IsR W B ok g (lowI 4 (n % 18446744073709551616) ++ rest) 0) :
    Calls Tryd.prog 29 #[.pointer (some ⟨g, 0, none⟩)] W fun e w' => e = .returned (.int .u32 (n % 4294967296)) ∧ IsR w' B ok g rest 0 ∧ Fr W w' (fun k => k = g) := by
  obtain ⟨h1, h2, h3⟩ := taken (lowI 4 (n % 18446744073709551616)) rest (k := 4) (by rw [lowI_len]; rfl)
  have h := RWord hR
  rw [h1, h2, h3, or_val (lowI_B _ _) (by rw [lowI_len]; decide), val_low, show (256 : Int) ^ 4 = 4294967296 by decide, show n % 18446744073709551616 % 4294967296 = n % 4294967296 by omega] at h
  exact h
theorem back4 (hR : IsR W B ok g (bs ++ rest) 0) (hl : (bs ++ rest).length ≤ 140737488351232) :
    Calls Tryd.prog 26 #[.pointer (some ⟨g, 0, none⟩), .int .i64 (bs.length : Int)] W fun e w' => ∃ v, e = .returned v ∧ Kd.R (Kd.int .u8) 5 w' W.heap.size (fun _ => True) v bs ∧ IsR w' B ok g rest 0 ∧ Fr W w' (fun k => k = g) := by
  obtain ⟨h1, h2, h3⟩ := taken bs rest (k := bs.length) rfl
  have h := RBytes (bs.length : Int) hR hl
  rw [h1, h2, h3] at h
  exact h
theorem back5 (n : Int) (hR : IsR W B ok g (numOf n ++ rest) 0) :
    Calls Tryd.prog 27 #[.pointer (some ⟨g, 0, none⟩)] W fun e w' => e = .returned (.int .i64 (n % 4294967296)) ∧ IsR w' B ok g rest 0 ∧ Fr W w' (fun k => k = g) := by
  have h := RNumber hR
  rw [num_there] at h
  simp only [List.drop_left' rfl] at h
  exact h
end
end Go.Proofs.YtgnjlgfnpfjjnaaDoor.Pk
