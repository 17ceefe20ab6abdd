/- The statement NumAll over numbers and lists alone: every operation of the program on cells answers as the document's. -/
import Derived.Test.YtgnjlgfnpfjjnaaPx5
import Derived.Test.YtgnjlgfnpfjjnaaMath1
namespace Go.Proofs.Ytgnjlgfnpfjjnaa.Pure
set_option linter.unusedSimpArgs false
set_option linter.unusedVariables false
open Go.RowKit Go.Proofs.Ytgnjlgfnpfjjnaa.P Go.Proofs.YtgnjlgfnpfjjnaaW.PrintWords Go.Proofs.YtgnjlgfnpfjjnaaW.PrintLast Go.Proofs.YtgnjlgfnpfjjnaaW.PrintMore

theorem all_l1 (x y : Int) (hx0 : 0 ≤ x) (hx1 : x ≤ 65535) (hy0 : 0 ≤ y) (hy1 : y ≤ 65535) (ops : List Int) (hn : ops.length ≤ 100) (d : Nat) :
    ∀ i : Nat, i + d = ops.length → ∃ K, ∀ k, K ≤ k → wisplaw01_NumAll.l1 k x y ops i = some true := by
  induction d with
  | zero =>
    intro i hi
    refine ⟨1, fun k hk => ?_⟩
    obtain ⟨k, rfl⟩ : ∃ m, k = m + 1 := ⟨k - 1, by omega⟩
    simp only [wisplaw01_NumAll.l1]
    rw [if_neg (by omega)]
  | succ d ih =>
    intro i hi
    obtain ⟨K, hK⟩ := ih (i + 1) (by omega)
    obtain ⟨u, hu1, hu2⟩ := unary_same (rd ops i) x hx0 hx1
    obtain ⟨b, K2, hb⟩ := binary_same (rd ops i) x y hx0 hx1 hy0 hy1
    refine ⟨K + K2 + 2, fun k hk => ?_⟩
    obtain ⟨k, rfl⟩ : ∃ m, k = m + 2 := ⟨k - 2, by omega⟩
    have hw : wrap64 ((i : Int) + 1) = ((i + 1 : Nat) : Int) := by rw [wrap64_u (by omega) (by omega)]; omega
    obtain ⟨h1, h2⟩ := hb k (by omega)
    simp only [wisplaw01_NumAll.l1]
    rw [if_pos (by omega), if_pos (by omega), hu1, hu2]
    simp only [Option.bind_some, bne_self_eq_false, if_true, wisplaw01_NumAll.j3]
    rw [if_neg (by simp), if_pos (by omega), if_pos (by omega), h1, h2]
    simp only [Option.bind_some, bne_self_eq_false, if_true]
    rw [if_neg (by simp), hw]
    exact hK k (by omega)
theorem all_l0 (x y : Int) (hx0 : 0 ≤ x) (hx1 : x ≤ 65535) (hy0 : 0 ≤ y) (hy1 : y ≤ 65535) (d : Nat) :
    ∀ (i : Int) (ops : List Int), i + d = 66 → -1 ≤ i → ops.length + d ≤ 100 → ∃ K, ∀ k, K ≤ k → wisplaw01_NumAll.l0 k x y ops i = some true := by
  induction d with
  | zero =>
    intro i ops hi h0 hn
    obtain ⟨K, hK⟩ := all_l1 x y hx0 hx1 hy0 hy1 ops (by omega) ops.length 0 (by omega)
    refine ⟨K + 1, fun k hk => ?_⟩
    obtain ⟨k, rfl⟩ : ∃ m, k = m + 1 := ⟨k - 1, by omega⟩
    simp only [wisplaw01_NumAll.l0]
    rw [if_neg (by omega)]
    exact hK k (by omega)
  | succ d ih =>
    intro i ops hi h0 hn
    obtain ⟨K, hK⟩ := ih (i + 1) (ops ++ [i]) (by omega) (by omega) (by simp; omega)
    refine ⟨K + 1, fun k hk => ?_⟩
    obtain ⟨k, rfl⟩ : ∃ m, k = m + 1 := ⟨k - 1, by omega⟩
    simp only [wisplaw01_NumAll.l0]
    rw [if_pos (by omega), if_pos (by omega), wrap64_u (x := i + 1) (by omega) (by omega)]
    exact hK k (by omega)
theorem NumAll : wisplaw01_NumAll.Pure := by
  intro op n x y ho hn hx hy
  obtain ⟨hx0, hx1⟩ := bounds_u16 hx
  obtain ⟨hy0, hy1⟩ := bounds_u16 hy
  obtain ⟨K, hK⟩ := all_l0 x y hx0 hx1 hy0 hy1 67 (-1) [op] (by omega) (by omega) (by simp)
  refine ⟨K + 6, ?_⟩
  unfold wisplaw01_NumAll.f
  rw [nSigned hx0 hx1, rSigned hx0 hx1]
  simp only [Option.bind_some, if_true, nCell, rCell, nFlag, rFlag]
  rw [fixed_num (K + 1)]
  simp only [Option.bind_some, wisplaw01_NumAll.j0]
  rw [if_neg (by simp)]
  exact hK _ (by omega)
end Go.Proofs.Ytgnjlgfnpfjjnaa.Pure
