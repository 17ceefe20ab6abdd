/- The statement NumOrder over numbers alone: the two orders are total, and min and max follow the signed one. -/
import Derived.Test.YtgnjlgfnpfjjnaaPx8
import Derived.Test.YtgnjlgfnpfjjnaaMath2
namespace Go.Proofs.Ytgnjlgfnpfjjnaa.Pure
set_option linter.unusedSimpArgs false
set_option linter.unusedVariables false
open Go.RowKit Go.Proofs.Ytgnjlgfnpfjjnaa.P Go.Proofs.YtgnjlgfnpfjjnaaW.PrintWords Go.Proofs.YtgnjlgfnpfjjnaaW.PrintLast Go.Proofs.YtgnjlgfnpfjjnaaW.PrintMore

theorem sg_lt {x : Int} (h0 : 0 ≤ x) (h1 : x ≤ 65535) : (32768 ≤ x ∧ sg x = x - 65536) ∨ (x < 32768 ∧ sg x = x) := by unfold sg; split <;> omega
theorem sg_inj {x y : Int} (hx0 : 0 ≤ x) (hx1 : x ≤ 65535) (hy0 : 0 ≤ y) (hy1 : y ≤ 65535) : sg x = sg y ↔ x = y := by
  rcases sg_lt hx0 hx1 with h | h <;> rcases sg_lt hy0 hy1 with h' | h' <;> omega
theorem count_one (a b c : Int) (ha : a = 65535 ∨ a = 0) (hb : b = 65535 ∨ b = 0) (hc : c = 65535 ∨ c = 0) (h : a + b + c = 65535) : wisplaw01_NumOrder_1.f a b c = some true := by
  rcases ha with rfl | rfl <;> rcases hb with rfl | rfl <;> rcases hc with rfl | rfl <;> simp_all [wisplaw01_NumOrder_1.f]
section
variable {x y z : Int} (hx0 : 0 ≤ x) (hx1 : x ≤ 65535) (hy0 : 0 ≤ y) (hy1 : y ≤ 65535) (hz0 : 0 ≤ z) (hz1 : z ≤ 65535)
include hx0 hx1 hy0 hy1
theorem ord_j2 (k : Nat) : wisplaw01_NumOrder.j2 (k + 4) x y (if sg x < sg y then 65535 else 0) (if x < y then 65535 else 0) false = some true := by
  simp only [wisplaw01_NumOrder.j2]
  rw [if_neg (by simp)]
  simp only [one_minus, one_zero, two_eq, two_lt hx0 hx1 (y := 0) (by omega) (by omega), Option.bind_some, if_true, show sg 0 = 0 from rfl]
  have h1 : ((if sg x < sg y then (65535 : Int) else 0) != (if x < y then 65535 else 0)) = ((if 32768 ≤ x then (65535 : Int) else 0) != (if 32768 ≤ y then 65535 else 0)) := by
    rcases sg_lt hx0 hx1 with ⟨h, e⟩ | ⟨h, e⟩ <;> rcases sg_lt hy0 hy1 with ⟨h', e'⟩ | ⟨h', e'⟩ <;> (rw [e, e']; (repeat' split) <;> first | rfl | omega)
  rw [h1, if_pos (by simp)]
  congr 1
  rcases sg_lt hx0 hx1 with ⟨h, e⟩ | ⟨h, e⟩ <;> (rw [e]; (repeat' split) <;> first | rfl | omega)
include hz0 hz1
theorem ord_j1 (k : Nat) : wisplaw01_NumOrder.j1 (k + 5) x y z (if sg x < sg y then 65535 else 0) (if x < y then 65535 else 0) false = some true := by
  have h2 := ord_j2 hx0 hx1 hy0 hy1 k
  simp only [wisplaw01_NumOrder.j1]
  rw [if_neg (by simp)]
  simp only [two_lt hx0 hx1 hz0 hz1, two_lt hy0 hy1 hz0 hz1, two_ult, Option.bind_some]
  by_cases a : sg x < sg y
  · by_cases b : sg y < sg z
    · have c : sg x < sg z := by omega
      by_cases a' : x < y
      · by_cases b' : y < z
        · have c' : x < z := by omega
          simp [a, b, c, a', b', c'] at h2 ⊢; exact h2
        · simp [a, b, c, a', b'] at h2 ⊢; exact h2
      · simp [a, b, c, a'] at h2 ⊢; exact h2
    · by_cases a' : x < y
      · by_cases b' : y < z
        · have c' : x < z := by omega
          simp [a, b, a', b', c'] at h2 ⊢; exact h2
        · simp [a, b, a', b'] at h2 ⊢; exact h2
      · simp [a, b, a'] at h2 ⊢; exact h2
  · by_cases a' : x < y
    · by_cases b' : y < z
      · have c' : x < z := by omega
        simp [a, a', b', c'] at h2 ⊢; exact h2
      · simp [a, a', b'] at h2 ⊢; exact h2
    · simp [a, a'] at h2 ⊢; exact h2
theorem ord_j0 (k : Nat) : wisplaw01_NumOrder.j0 (k + 6) x y z (if sg x < sg y then 65535 else 0) (if x = y then 65535 else 0) (if sg y < sg x then 65535 else 0) (if x < y then 65535 else 0) false = some true := by
  have h1 := ord_j1 hx0 hx1 hy0 hy1 hz0 hz1 k
  have hi := sg_inj hx0 hx1 hy0 hy1
  simp only [wisplaw01_NumOrder.j0]
  rw [if_neg (by simp)]
  simp only [two_least hx0 hx1 hy0 hy1, two_most hx0 hx1 hy0 hy1, Option.bind_some]
  by_cases e : x = y
  · subst e
    simp at h1 ⊢; exact h1
  · by_cases a : sg x < sg y
    · have b : ¬ sg y < sg x := by omega
      simp [a, b, e] at h1 ⊢; exact h1
    · have b : sg y < sg x := by have := mt hi.1 e; omega
      simp [a, b, e] at h1 ⊢; exact h1
end
theorem NumOrder : wisplaw01_NumOrder.Pure := by
  intro x y z hx hy hz
  obtain ⟨hx0, hx1⟩ := bounds_u16 hx
  obtain ⟨hy0, hy1⟩ := bounds_u16 hy
  obtain ⟨hz0, hz1⟩ := bounds_u16 hz
  have hi := sg_inj hx0 hx1 hy0 hy1
  refine ⟨6, ?_⟩
  unfold wisplaw01_NumOrder.f
  simp only [two_lt hx0 hx1 hy0 hy1 4, two_gt hx0 hx1 hy0 hy1 4, two_gt hy0 hy1 hx0 hx1 4, two_eq 4, two_ne 4, two_ult 4, two_ugt 4, Option.bind_some]
  rw [count_one _ _ _ (by split <;> simp) (by split <;> simp) (by split <;> simp) (by (repeat' split) <;> omega)]
  simp only [Option.bind_some, if_true]
  rw [count_one _ _ _ (by split <;> simp) (by split <;> simp) (by split <;> simp) (by (repeat' split) <;> omega)]
  simp only [Option.bind_some, if_true]
  rw [one_inv (by split <;> omega) (by split <;> omega)]
  simp only [Option.bind_some]
  rw [if_pos (by split <;> omega), if_neg (by by_cases e : x = y <;> simp [e]), fixed_num 1]
  exact ord_j0 hx0 hx1 hy0 hy1 hz0 hz1 0
end Go.Proofs.Ytgnjlgfnpfjjnaa.Pure
