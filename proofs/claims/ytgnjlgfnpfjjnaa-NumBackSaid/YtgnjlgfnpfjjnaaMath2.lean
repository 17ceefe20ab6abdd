/- Plain facts: what each primitive answers, one by one. -/
import Derived.Test.YtgnjlgfnpfjjnaaPx5
import Derived.Test.YtgnjlgfnpfjjnaaMath1
namespace Go.Proofs.Ytgnjlgfnpfjjnaa.Pure
set_option linter.unusedSimpArgs false
set_option linter.unusedVariables false
open Go.RowKit Go.Proofs.Ytgnjlgfnpfjjnaa.P Go.Proofs.YtgnjlgfnpfjjnaaW.PrintWords Go.Proofs.YtgnjlgfnpfjjnaaW.PrintLast Go.Proofs.YtgnjlgfnpfjjnaaW.PrintMore

/-! ### one primitive at a time -/
theorem two_add (k : Nat) (x y : Int) : wisplaw01_two.f k 21 x y = some ((x + y) % 65536) := by simp [wisplaw01_two.f, num_Binary.f, u16_wrap]
theorem two_sub (k : Nat) (x y : Int) : wisplaw01_two.f k 22 x y = some ((x - y) % 65536) := by simp [wisplaw01_two.f, num_Binary.f, u16_wrap]; omega
theorem two_mul (k : Nat) (x y : Int) : wisplaw01_two.f k 23 x y = some (x * y % 65536) := by simp [wisplaw01_two.f, num_Binary.f, u16_wrap]
theorem two_by0 (k : Nat) (op x : Int) (h : op = 24 ∨ op = 25 ∨ op = 26 ∨ op = 27) : wisplaw01_two.f (k + 1) op x 0 = some 0 := by
  rcases h with rfl | rfl | rfl | rfl <;> simp [wisplaw01_two.f, num_Binary.f, num_Binary.j0, num_divided.f]
section
variable {x y : Int} (hx0 : 0 ≤ x) (hx1 : x ≤ 65535) (hy0 : 0 ≤ y) (hy1 : y ≤ 65535)
include hx0 hx1 hy0 hy1
theorem two_by (k : Nat) (hy : y ≠ 0) : wisplaw01_two.f (k + 1) 24 x y = some (Int.tdiv (sg x) (sg y) % 65536) := by
  have hs := sg_bd hx0 hx1
  have hn : sg y ≠ 0 := by unfold sg; split <;> omega
  have bd := tdiv_bd (sg x) (sg y) 32768 (by omega)
  simp [wisplaw01_two.f, num_Binary.f, num_Binary.j0, num_divided.f, hy, nSigned hx0 hx1, nSigned hy0 hy1, hn, nCell, wrap64_u (x := (sg x).tdiv (sg y)) (by omega) (by omega)]
theorem two_mod (k : Nat) (hy : y ≠ 0) : wisplaw01_two.f (k + 1) 25 x y = some (Int.tmod (sg x) (sg y) % 65536) := by
  have hn : sg y ≠ 0 := by unfold sg; split <;> omega
  simp [wisplaw01_two.f, num_Binary.f, num_Binary.j0, num_divided.f, hy, nSigned hx0 hx1, nSigned hy0 hy1, hn, nCell]
theorem two_uby (k : Nat) (hy : y ≠ 0) : wisplaw01_two.f (k + 1) 26 x y = some (x / y) := by
  have wx : wrap64 x = x := wrap64_u (by omega) (by omega)
  have wy : wrap64 y = y := wrap64_u (by omega) (by omega)
  have td : Int.tdiv x y = x / y := Int.tdiv_eq_ediv_of_nonneg hx0
  have d0 : 0 ≤ x / y := Int.ediv_nonneg hx0 hy0
  have bd2 := tdiv_bd x y 65535 (by omega)
  rw [td] at bd2
  simp [wisplaw01_two.f, num_Binary.f, num_Binary.j0, num_divided.f, hy, nSigned hx0 hx1, nSigned hy0 hy1, nCell, wx, wy, td, wrap64_u (x := x / y) (by omega) (by omega)]
  omega
theorem two_umd (k : Nat) (hy : y ≠ 0) : wisplaw01_two.f (k + 1) 27 x y = some (x % y) := by
  have wx : wrap64 x = x := wrap64_u (by omega) (by omega)
  have wy : wrap64 y = y := wrap64_u (by omega) (by omega)
  have td : Int.tmod x y = x % y := Int.tmod_eq_emod_of_nonneg hx0
  have d0 : 0 ≤ x % y := Int.emod_nonneg _ hy
  have d1 : x % y < y := Int.emod_lt_of_pos _ (by omega)
  simp [wisplaw01_two.f, num_Binary.f, num_Binary.j0, num_divided.f, hy, nSigned hx0 hx1, nSigned hy0 hy1, nCell, wx, wy, td]
  omega
theorem two_lt (k : Nat) : wisplaw01_two.f (k + 2) 44 x y = some (if sg x < sg y then 65535 else 0) := by
  simp [wisplaw01_two.f, num_Binary.f, num_Binary.j0, num_compared.f, num_compared.j0, nSigned hx0 hx1, nSigned hy0 hy1, nFlag]
theorem two_gt (k : Nat) : wisplaw01_two.f (k + 2) 45 x y = some (if sg y < sg x then 65535 else 0) := by
  simp [wisplaw01_two.f, num_Binary.f, num_Binary.j0, num_compared.f, num_compared.j0, nSigned hx0 hx1, nSigned hy0 hy1, nFlag]
theorem two_least (k : Nat) : wisplaw01_two.f (k + 2) 30 x y = some (if sg y < sg x then y else x) := by
  simp [wisplaw01_two.f, num_Binary.f, num_Binary.j0, num_compared.f, num_compared.j0, nSigned hx0 hx1, nSigned hy0 hy1]
  split <;> rfl
theorem two_most (k : Nat) : wisplaw01_two.f (k + 2) 31 x y = some (if sg x < sg y then y else x) := by
  simp [wisplaw01_two.f, num_Binary.f, num_Binary.j0, num_compared.f, num_compared.j0, nSigned hx0 hx1, nSigned hy0 hy1]
  split <;> rfl
end
theorem two_eq (k : Nat) (x y : Int) : wisplaw01_two.f (k + 2) 42 x y = some (if x = y then 65535 else 0) := by
  simp [wisplaw01_two.f, num_Binary.f, num_Binary.j0, num_compared.f, num_compared.j0, nFlag]
theorem two_ne (k : Nat) (x y : Int) : wisplaw01_two.f (k + 2) 43 x y = some (if x = y then 0 else 65535) := by
  simp [wisplaw01_two.f, num_Binary.f, num_Binary.j0, num_compared.f, num_compared.j0, nFlag]
theorem two_ult (k : Nat) (x y : Int) : wisplaw01_two.f (k + 2) 46 x y = some (if x < y then 65535 else 0) := by
  simp [wisplaw01_two.f, num_Binary.f, num_Binary.j0, num_compared.f, num_compared.j0, nFlag]
theorem two_ugt (k : Nat) (x y : Int) : wisplaw01_two.f (k + 2) 47 x y = some (if y < x then 65535 else 0) := by
  simp [wisplaw01_two.f, num_Binary.f, num_Binary.j0, num_compared.f, num_compared.j0, nFlag]
theorem two_and (k a b : Nat) (ha : a < 65536) (hb : b < 65536) : wisplaw01_two.f (k + 1) 36 a b = some ((a &&& b : Nat) : Int) := by
  simp [wisplaw01_two.f, num_Binary.f, num_Binary.j0, and_u16 a b ha hb]
theorem two_or (k a b : Nat) (ha : a < 65536) (hb : b < 65536) : wisplaw01_two.f (k + 1) 37 a b = some ((a ||| b : Nat) : Int) := by
  simp [wisplaw01_two.f, num_Binary.f, num_Binary.j0, or_u16 a b ha hb]
theorem two_xor (k a b : Nat) (ha : a < 65536) (hb : b < 65536) : wisplaw01_two.f (k + 1) 38 a b = some ((a ^^^ b : Nat) : Int) := by
  simp [wisplaw01_two.f, num_Binary.f, num_Binary.j0, xor_u16 a b ha hb]
theorem two_left1 (k : Nat) (x : Int) : wisplaw01_two.f (k + 1) 40 x 1 = some (x * 2 % 65536) := by
  simp [wisplaw01_two.f, num_Binary.f, num_Binary.j0, shl, u16_wrap, IntKind.bits]
theorem two_right1 (k : Nat) (x : Int) : wisplaw01_two.f (k + 1) 41 x 1 = some (x / 2) := by
  simp [wisplaw01_two.f, num_Binary.f, num_Binary.j0, shr, IntKind.bits]
theorem one_neg (x : Int) : wisplaw01_one.f 28 x = some (65535 - (x - 1) % 65536) := by
  simp [wisplaw01_one.f, num_Unary.f, u16_wrap]; rw [not_u16 _ (by omega) (by omega)]
theorem one_inv {x : Int} (h0 : 0 ≤ x) (h1 : x ≤ 65535) : wisplaw01_one.f 39 x = some (65535 - x) := by
  simp [wisplaw01_one.f, num_Unary.f]; rw [not_u16 _ (by omega) (by omega)]
theorem one_inc (x : Int) : wisplaw01_one.f 32 x = some ((x + 1) % 65536) := by simp [wisplaw01_one.f, num_Unary.f, u16_wrap]
theorem one_dec (x : Int) : wisplaw01_one.f 33 x = some ((x - 1) % 65536) := by simp [wisplaw01_one.f, num_Unary.f, u16_wrap]
theorem one_dbl (x : Int) : wisplaw01_one.f 34 x = some ((x + x) % 65536) := by simp [wisplaw01_one.f, num_Unary.f, u16_wrap]
theorem one_zero (x : Int) : wisplaw01_one.f 48 x = some (if x = 0 then 65535 else 0) := by simp [wisplaw01_one.f, num_Unary.f, nFlag]
theorem one_minus (x : Int) : wisplaw01_one.f 49 x = some (if 32768 ≤ x then 65535 else 0) := by simp [wisplaw01_one.f, num_Unary.f, nFlag]
end Go.Proofs.Ytgnjlgfnpfjjnaa.Pure
