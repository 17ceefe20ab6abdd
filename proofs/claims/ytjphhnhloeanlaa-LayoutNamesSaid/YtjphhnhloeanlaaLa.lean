/- The definitions that wisplaw12.LayoutNames lays out: what layout.Of answers. -/
import Derived.Test.YtjphhnhloeanlaaLq
namespace Go.Proofs.Ytjphhnhloeanlaa.P
open Go.RowKit Go.Proofs.YtjphhnhloeanlaaW.PrintWords Go.Proofs.YtjphhnhloeanlaaW.PrintLast Go.Proofs.YtjphhnhloeanlaaW.PrintMore Go.Proofs.Ytjphhnhloeanlaa.Mem
set_option linter.unusedVariables false
set_option linter.unusedSimpArgs false
theorem ofA_nil : ofA [] = ([], 128, 0, 0, 0, 0) := by kernel_rfl
def big2 : List Df := [⟨3, ⟨#[]⟩, 16384, [], ⟨0, 0⟩⟩, ⟨3, ⟨#[]⟩, 1, [], ⟨7, 3⟩⟩]
theorem ofA_big : ofA big2 = ([], 0, 0, 7, 3, 112) := by kernel_rfl
def dN (i : Nat) : Df := ⟨2, ⟨#[]⟩, 0, [], ⟨(i : Int), 0⟩⟩
def dL (n : Nat) : List Df := (List.range n).map dN
theorem dL_len (n : Nat) : (dL n).length = n := by simp [dL]
theorem dL_succ (n : Nat) : dL (n + 1) = dL n ++ [dN n] := by simp [dL, List.range_succ]
theorem dL_take {m n : Nat} (h : m ≤ n) : (dL n).take m = dL m := by
  unfold dL
  rw [← List.map_take, List.take_range, Nat.min_eq_left h]
theorem dL_sum : ∀ n : Nat, ((dL n).map dsz).sum = 4 * n
  | 0 => rfl
  | n + 1 => by rw [dL_succ, List.map_append, List.sum_append, dL_sum n]; simp [dN, dsz]; omega
theorem dL_by : ∀ n : Nat, ((dL n).map dby).sum = 0
  | 0 => rfl
  | n + 1 => by rw [dL_succ, List.map_append, List.sum_append, dL_by n]; simp [dN, dby]
theorem dL_cn : ∀ n : Nat, cnD (dL n) = 0
  | 0 => rfl
  | n + 1 => by
    have h := dL_cn n
    unfold cnD at *
    rw [dL_succ, List.map_append, List.sum_append, h]; simp [dN, cnL]
theorem atN_dL {n i : Nat} (h : i ≤ n) : atN (dL n) i = 128 + 4 * i := by unfold atN; rw [dL_take h, dL_sum]
theorem ramN_dL {n i : Nat} (h : i ≤ n) : ramN (dL n) i = 0 := by unfold ramN; rw [dL_take h, dL_by]
theorem ok_dL {n : Nat} (h : n ≤ 1000) : OkD (dL n) := by
  refine ⟨by rw [dL_len]; omega, by rw [dL_cn]; omega, fun d hd => ?_⟩
  obtain ⟨i, _, rfl⟩ := List.mem_map.1 hd
  exact ⟨by simp [dN], by simp [dN]⟩
theorem err_dL {n i : Nat} (h : i < n) (h5 : i < 512) : errN (dL n) i i = 0 := by
  unfold errN
  rw [if_neg (by omega), atN_dL (by omega), ramN_dL (by omega), if_neg (by omega), if_neg (by omega)]
theorem ofA_513 : ofA (dL 513) = ([], 0, 0, 512, 0, 110) := by
  rw [ofA_stop (m := 512) (by rw [dL_len]; omega) (fun j hj => err_dL (by omega) hj) (by unfold errN; rw [if_pos rfl]; decide)]
  have h : dfA (dL 513) 512 = dN 512 := by rw [dfA_eq (by rw [dL_len]; omega)]; simp [dL]
  rw [h]
  unfold errN
  rw [if_pos rfl]
  rfl
theorem ofA_512 : (ofA (dL 512)).2.2.2.2.2 = 0 ∧ (ofA (dL 512)).1.length = 512 := by
  rw [ofA_done (fun j hj => err_dL (by rw [dL_len] at hj; exact hj) (by rw [dL_len] at hj; exact hj))]
  exact ⟨rfl, by simp [dL_len]⟩
def nB : Nd := ⟨1, 12, 0, ⟨#[]⟩, [], [], false, ⟨0, 0⟩⟩
theorem szL_rep : ∀ n : Nat, szL (List.replicate n nB) = 2 * n
  | 0 => by simp [szL]
  | n + 1 => by rw [List.replicate_succ, szL, szL_rep n]; simp [nB, szN]; omega
theorem cnL_rep : ∀ n : Nat, cnL (List.replicate n nB) = n
  | 0 => by simp [cnL]
  | n + 1 => by rw [List.replicate_succ, cnL, cnL_rep n]; simp [nB, cnN, cnL]; omega
def dB (n : Nat) (l c : Int) : Df := ⟨1, ⟨#[]⟩, 0, List.replicate n nB, ⟨l, c⟩⟩
theorem dsz_dB (n : Nat) (l c : Int) : dsz (dB n l c) = 2 * n + 4 := by
  unfold dsz dB
  rw [if_pos rfl, szL_rep]; omega
theorem ok_dB {n : Nat} (h : n ≤ 10000) (l c : Int) : OkD [dB n l c] := by
  refine ⟨by simp, ?_, fun d hd => ?_⟩
  · simp [cnD, dB, cnL_rep]; omega
  · rw [List.mem_singleton] at hd
    subst hd
    exact ⟨by simp [dB], by simp [dB]⟩
theorem at_dB (n : Nat) (l c : Int) : atN [dB n l c] 1 = 128 + (2 * n + 4) := by simp [atN, dsz_dB]
theorem rm_dB (n : Nat) (l c : Int) : ramN [dB n l c] 1 = 0 := by simp [ramN, dB, dby]
theorem ofA_full : (ofA [dB 8126 0 0]).2.1 = 16384 ∧ (ofA [dB 8126 0 0]).2.2.2.2.2 = 0 := by
  rw [ofA_done (fun j hj => by
    obtain rfl : j = 0 := by simpa using hj
    unfold errN
    rw [if_neg (by decide), at_dB, rm_dB, if_neg (by decide), if_neg (by decide)])]
  exact ⟨by show ((atN [dB 8126 0 0] 1 : Nat) : Int) = 16384; rw [at_dB]; rfl, rfl⟩
theorem ofA_over : ofA [dB 8127 7 3] = ([], 0, 0, 7, 3, 111) := by
  have h : errN [dB 8127 7 3] 0 0 = 111 := by
    unfold errN
    rw [if_neg (by decide), at_dB, if_pos (by decide)]
  rw [ofA_stop (m := 0) (by simp) (fun j hj => by omega) (by rw [h]; decide), h]
  rfl
end Go.Proofs.Ytjphhnhloeanlaa.P
