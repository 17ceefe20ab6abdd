/- The statement NumBack over numbers alone: quotients and remainders, sums and differences, shifts and bits lead back. -/
import Derived.Test.YtgnjlgfnpfjjnaaPx6
import Derived.Test.YtgnjlgfnpfjjnaaMath2
namespace Go.Proofs.Ytgnjlgfnpfjjnaa.Pure
set_option linter.unusedSimpArgs false
set_option linter.unusedVariables false
open Go.RowKit Go.Proofs.Ytgnjlgfnpfjjnaa.P Go.Proofs.YtgnjlgfnpfjjnaaW.PrintWords Go.Proofs.YtgnjlgfnpfjjnaaW.PrintLast Go.Proofs.YtgnjlgfnpfjjnaaW.PrintMore

theorem and_add_or (n : Nat) : ∀ a b : Nat, a < 2 ^ n → b < 2 ^ n → (a &&& b) + (a ||| b) = a + b := by
  induction n with
  | zero => intro a b ha hb; rw [Nat.pow_zero] at ha hb; rw [show a = 0 by omega, show b = 0 by omega]; rfl
  | succ n ih =>
    intro a b ha hb
    have h := ih (a / 2) (b / 2) (by omega) (by omega)
    have e1 := Nat.and_div_two_pow (a := a) (b := b) (n := 1)
    have e2 := Nat.or_div_two_pow (a := a) (b := b) (n := 1)
    have f1 := Nat.and_mod_two_pow (a := a) (b := b) (n := 1)
    have f2 := Nat.or_mod_two_pow (a := a) (b := b) (n := 1)
    simp only [Nat.pow_one] at e1 e2 f1 f2
    rw [← e1, ← e2] at h
    have g : (a % 2 &&& b % 2) + (a % 2 ||| b % 2) = a % 2 + b % 2 := by
      rcases Nat.mod_two_eq_zero_or_one a with p | p <;> rcases Nat.mod_two_eq_zero_or_one b with q | q <;> rw [p, q] <;> rfl
    rw [← f1, ← f2] at g
    omega
theorem cong_div (Q R s x y : Int) (e f : Int) (hy : y = s + 65536 * e) (hx : x = s * Q + R + 65536 * f) (hx0 : 0 ≤ x) (hx1 : x ≤ 65535) : (Q % 65536 * y % 65536 + R % 65536) % 65536 = x := by
  have h1 : (Q % 65536 * y) % 65536 = (Q * y) % 65536 := by rw [Int.mul_emod (Q % 65536), Int.emod_emod, ← Int.mul_emod]
  rw [h1, ← Int.add_emod]
  have h2 : Q * y + R = x + 65536 * (Q * e - f) := by
    rw [hy, hx, Int.mul_add, Int.mul_sub, Int.mul_comm Q s, Int.mul_left_comm Q 65536 e]
    omega
  rw [h2, Int.add_mul_emod_self_left]
  omega
theorem sg_cast (x : Int) : ∃ e, x = sg x + 65536 * e := by
  unfold sg; split
  · exact ⟨1, by omega⟩
  · exact ⟨0, by omega⟩
theorem tmod_small {s t : Int} (ht : t ≠ 0) : (s.tmod t).natAbs < t.natAbs := by
  rw [Int.natAbs_tmod]; exact Nat.mod_lt _ (by omega)
theorem sg_small {r : Int} (h0 : -32768 ≤ r) (h1 : r ≤ 32767) : sg (r % 65536) = r := by unfold sg; split <;> omega
theorem back_j3 (k : Nat) {x y : Int} (hx0 : 0 ≤ x) (hx1 : x ≤ 65535) (hy0 : 0 ≤ y) (hy1 : y ≤ 65535) (hy : y ≠ 0) : wisplaw01_NumBack.j3 (k + 3) x y (sg x) false = some true := by
  have hs := sg_bd hx0 hx1
  have ht := sg_bd hy0 hy1
  have hn : sg y ≠ 0 := by unfold sg; split <;> omega
  have h1 := tmod_small (s := sg x) hn
  have hsn : sg x < 0 → (sg x).tmod (sg y) ≤ 0 := fun h => by
    have := Int.tmod_nonneg (a := -sg x) (sg y) (by omega)
    rw [Int.neg_tmod] at this; omega
  have hsp : 0 ≤ sg x → 0 ≤ (sg x).tmod (sg y) := fun h => Int.tmod_nonneg _ h
  simp only [wisplaw01_NumBack.j3]
  rw [if_neg (by simp), two_mod hx0 hx1 hy0 hy1 (k + 1) hy]
  simp only [Option.bind_some]
  rw [nSigned (x := (sg x).tmod (sg y) % 65536) (by omega) (by omega), nSigned hy0 hy1]
  rw [sg_small (by omega) (by omega)]
  generalize (sg x).tmod (sg y) = r at *
  simp only [Option.bind_some]
  have w1 : wrap64 (-sg y) = -sg y := wrap64_u (by omega) (by omega)
  have w2 : wrap64 (-r) = -r := wrap64_u (by omega) (by omega)
  rw [w1, w2]
  have fin : (if r = 0 then (some true : Option Bool) else some (decide (r < 0) == decide (sg x < 0))) = some true := by
    split
    · rfl
    · have : decide (r < 0) = decide (sg x < 0) := by
        by_cases h : sg x < 0
        · have := hsn h
          simp [h]; omega
        · have := hsp (by omega)
          simp [h]; omega
      rw [this]; simp
  by_cases c : sg y < 0
  · rw [if_pos c, if_pos (by omega), if_pos (by omega), fin]
  · rw [if_neg c, if_pos (by omega), if_pos (by omega), fin]
theorem back_j2 (k : Nat) {x y : Int} (hx0 : 0 ≤ x) (hx1 : x ≤ 65535) (hy0 : 0 ≤ y) (hy1 : y ≤ 65535) : wisplaw01_NumBack.j2 (k + 4) x y (sg x) false = some true := by
  simp only [wisplaw01_NumBack.j2]
  rw [if_neg (by simp)]
  have ao : ∃ a o : Int, wisplaw01_two.f (k + 3) 36 x y = some a ∧ wisplaw01_two.f (k + 3) 37 x y = some o ∧ a + o = x + y := by
    obtain ⟨a, rfl⟩ := Int.eq_ofNat_of_zero_le hx0
    obtain ⟨b, rfl⟩ := Int.eq_ofNat_of_zero_le hy0
    refine ⟨_, _, two_and _ a b (by omega) (by omega), two_or _ a b (by omega) (by omega), ?_⟩
    have := and_add_or 16 a b (by omega) (by omega)
    omega
  obtain ⟨a, o, h1, h2, h3⟩ := ao
  rw [h1, h2]
  simp only [Option.bind_some, two_add, h3, if_true]
  by_cases hy : y = 0
  · subst hy
    simp [two_by0 (k + 2)]
  · rw [if_neg hy]
    have hs := sg_bd hx0 hx1
    have ht := sg_bd hy0 hy1
    obtain ⟨e, he⟩ := sg_cast y
    obtain ⟨f, hf⟩ := sg_cast x
    have hm := Int.tmod_def (sg x) (sg y)
    have hc := cong_div ((sg x).tdiv (sg y)) ((sg x).tmod (sg y)) (sg y) x y e f he (by rw [hm]; omega) hx0 hx1
    simp only [two_by hx0 hx1 hy0 hy1 (k + 2) hy, two_mod hx0 hx1 hy0 hy1 (k + 2) hy, two_uby hx0 hx1 hy0 hy1 (k + 2) hy, two_umd hx0 hx1 hy0 hy1 (k + 2) hy, two_mul, two_add, Option.bind_some, hc, if_true]
    have h0 := Int.ediv_mul_add_emod x y
    have h4 : 0 ≤ x % y := Int.emod_nonneg _ hy
    have h5 : x % y < y := Int.emod_lt_of_pos _ (by omega)
    have h6 : (x / y * y % 65536 + x % y) % 65536 = x := by generalize x / y * y = z at *; omega
    rw [if_pos h6, show decide (x % y ≥ y) = false by simp; omega]
    exact back_j3 k hx0 hx1 hy0 hy1 hy
theorem back_j1 (k : Nat) {x y : Int} (hx0 : 0 ≤ x) (hx1 : x ≤ 65535) (hy0 : 0 ≤ y) (hy1 : y ≤ 65535) : wisplaw01_NumBack.j1 (k + 5) x y (sg x) false = some true := by
  simp only [wisplaw01_NumBack.j1]
  rw [if_neg (by simp)]
  have xf : wisplaw01_two.f (k + 4) 38 x 65535 = some (65535 - x) := by
    have h := not_u16 x hx0 hx1
    obtain ⟨a, rfl⟩ := Int.eq_ofNat_of_zero_le hx0
    have h2 := two_xor (k + 3) a 65535 (by omega) (by omega)
    have h3 := xor_u16 65535 a (by omega) (by omega)
    rw [show ((65535 : Nat) : Int) = 65535 from rfl] at h2 h3
    rw [h2, Nat.xor_comm a 65535, ← h3, h]
  have xx : ∃ a, wisplaw01_two.f (k + 4) 38 x y = some a ∧ wisplaw01_two.f (k + 4) 38 a y = some x := by
    obtain ⟨a, rfl⟩ := Int.eq_ofNat_of_zero_le hx0
    obtain ⟨b, rfl⟩ := Int.eq_ofNat_of_zero_le hy0
    refine ⟨_, two_xor _ a b (by omega) (by omega), ?_⟩
    rw [two_xor (k + 3) _ b (Nat.xor_lt_two_pow (n := 16) (by omega) (by omega)) (by omega), Nat.xor_assoc, Nat.xor_self, Nat.xor_zero]
  obtain ⟨a, h1, h2⟩ := xx
  simp only [one_dbl, one_neg, one_inv hx0 hx1, two_add, two_sub, two_left1, two_right1, two_uby hx0 hx1 (y := 2) (by omega) (by omega) _ (by omega), xf, h1, h2, Option.bind_some, if_true, bne_self_eq_false]
  rw [if_pos (by omega), if_pos (by omega)]
  exact back_j2 k hx0 hx1 hy0 hy1
theorem back_j0 (k : Nat) {x y : Int} (hx0 : 0 ≤ x) (hx1 : x ≤ 65535) (hy0 : 0 ≤ y) (hy1 : y ≤ 65535) : wisplaw01_NumBack.j0 (k + 6) x y (sg x) false = some true := by
  simp only [wisplaw01_NumBack.j0]
  rw [if_neg (by simp)]
  have e1 : ((x + y) % 65536 - y) % 65536 = x := by omega
  have e2 : 65535 - (65535 - (x - 1) % 65536 - 1) % 65536 = x := by omega
  have e3 : ((x + 1) % 65536 - 1) % 65536 = x := by omega
  simp only [two_add, two_sub, two_mul, one_neg, one_inc, one_dec, one_inv hx0 hx1, one_inv (x := 65535 - x) (by omega) (by omega), Option.bind_some, e1, e2, e3, if_true, Int.add_comm y x, Int.mul_comm y x, bne_self_eq_false]
  rw [if_pos (by omega)]
  exact back_j1 k hx0 hx1 hy0 hy1
theorem NumBack : wisplaw01_NumBack.Pure := by
  intro x y n hx hy hn
  obtain ⟨hx0, hx1⟩ := bounds_u16 hx
  obtain ⟨hy0, hy1⟩ := bounds_u16 hy
  obtain ⟨hn0, hn1⟩ := bounds_i64 hn
  have hs := sg_bd hx0 hx1
  refine ⟨6, ?_⟩
  unfold wisplaw01_NumBack.f
  rw [nSigned hx0 hx1]
  simp only [Option.bind_some, nCell]
  rw [if_pos (sg_mod hx0 hx1), if_neg (by omega), if_neg (by omega), if_pos (by unfold wrap64; omega), fixed_num 1]
  exact back_j0 0 hx0 hx1 hy0 hy1
end Go.Proofs.Ytgnjlgfnpfjjnaa.Pure
