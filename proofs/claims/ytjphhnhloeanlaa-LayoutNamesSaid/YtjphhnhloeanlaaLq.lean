/- layout.Of's answer without an error: what follows what. -/
import Derived.Test.YtjphhnhloeanlaaLp
namespace Go.Proofs.Ytjphhnhloeanlaa.P
open Go.RowKit Go.Proofs.YtjphhnhloeanlaaW.PrintWords Go.Proofs.YtjphhnhloeanlaaW.PrintLast Go.Proofs.YtjphhnhloeanlaaW.PrintMore Go.Proofs.Ytjphhnhloeanlaa.Mem
set_option linter.unusedVariables false
set_option linter.unusedSimpArgs false
theorem errN_zero {ds : List Df} {k i : Nat} (h : errN ds k i = 0) : k ≠ 512 ∧ atN ds (i + 1) ≤ 16384 ∧ ramN ds (i + 1) ≤ 16384 := by
  unfold errN at h
  split at h
  · cases h
  split at h
  · cases h
  split at h
  · cases h
  exact ⟨by omega, by omega, by omega⟩
/-- no error: every definition has room -/
theorem ofA_ok {ds : List Df} (h : (ofA ds).2.2.2.2.2 = 0) : ∀ j, j < ds.length → errN ds j j = 0 := by
  intro j hj
  unfold ofA at h
  cases hf : findE ds ds.length 0 with
  | some i =>
    rw [hf] at h
    exact absurd h (findE_is ds _ _ _ hf).2.2.2
  | none => exact (findE_none ds ds.length 0).1 hf j (Nat.zero_le _) (by omega)
structure Fits (ds : List Df) : Prop where
  all : ∀ j, j < ds.length → errN ds j j = 0
  n : ds.length ≤ 512
  at_ : ∀ j, j ≤ ds.length → atN ds j ≤ 16384
  rm : ∀ j, j ≤ ds.length → ramN ds j ≤ 16384
theorem fits {ds : List Df} (h : ∀ j, j < ds.length → errN ds j j = 0) : Fits ds := by
  refine ⟨h, ?_, fun j hj => ?_, fun j hj => ?_⟩
  · rcases Nat.lt_or_ge 512 ds.length with h1 | h1
    · exact absurd rfl (errN_zero (h 512 h1)).1
    · exact h1
  · cases j with
    | zero => simp [atN]
    | succ j => exact (errN_zero (h j (by omega))).2.1
  · cases j with
    | zero => simp [ramN]
    | succ j => exact (errN_zero (h j (by omega))).2.2
theorem atN_take {ds : List Df} {k j : Nat} (h : j ≤ k) : atN (ds.take k) j = atN ds j := by unfold atN; rw [List.take_take, Nat.min_eq_left h]
theorem ramN_take {ds : List Df} {k j : Nat} (h : j ≤ k) : ramN (ds.take k) j = ramN ds j := by unfold ramN; rw [List.take_take, Nat.min_eq_left h]
theorem dfA_take {ds : List Df} {k j : Nat} (h : j < k) : dfA (ds.take k) j = dfA ds j := by
  unfold dfA
  rw [List.getD_eq_getElem?_getD, List.getD_eq_getElem?_getD, List.getElem?_take, if_pos h]
theorem plc_take {ds : List Df} {k j : Nat} (h : j < k) : plc (ds.take k) j = plc ds j := by
  unfold plc; rw [dfA_take h, atN_take (by omega), ramN_take (by omega)]
theorem errN_take {ds : List Df} {k j : Nat} (h : j < k) : errN (ds.take k) j j = errN ds j j := by
  unfold errN; rw [atN_take (by omega), ramN_take (by omega)]
theorem ofA_take {ds : List Df} (h : Fits ds) {k : Nat} (hk : k ≤ ds.length) : ofA (ds.take k) = ((List.range k).map (plc ds), (atN ds k : Int), (ramN ds k : Int), 0, 0, 0) := by
  have hl : (ds.take k).length = k := by rw [List.length_take]; omega
  rw [ofA_done (fun j hj => by rw [errN_take (by omega)]; exact h.all j (by omega)), hl, atN_take (Nat.le_refl _), ramN_take (Nat.le_refl _)]
  congr 1
  exact List.map_congr_left (fun j hj => plc_take (by simpa using hj))
theorem OkD.take {ds : List Df} (h : OkD ds) (k : Nat) : OkD (ds.take k) := by
  refine ⟨?_, ?_, fun d hd => h.v d (List.mem_of_mem_take hd)⟩
  · have := h.n; rw [List.length_take]; omega
  · have h1 := sum_take (fun d : Df => cnL d.f3) ds k
    have := h.c
    unfold cnD at *
    omega
/-- what Of answers, an error or none -/
theorem ofA_cases (ds : List Df) : (ofA ds).2.2.2.2.2 ≠ 0 ∨ (Fits ds ∧ ofA ds = ((List.range ds.length).map (plc ds), (atN ds ds.length : Int), (ramN ds ds.length : Int), 0, 0, 0)) := by
  by_cases h : (ofA ds).2.2.2.2.2 = 0
  · exact .inr ⟨fits (ofA_ok h), ofA_done (ofA_ok h)⟩
  · exact .inl h
/-- place i, where all fits -/
theorem plc_fits {ds : List Df} (h : Fits ds) {i : Nat} (hi : i < ds.length) : plc ds i = ⟨(dfA ds i).f1, (atN ds i : Int), (dsz (dfA ds i) : Int), if (dfA ds i).f0 = 3 then 32768 + (ramN ds i : Int) else 0⟩ := by
  have h1 := h.at_ i (by omega)
  have h2 := h.rm i (by omega)
  unfold plc
  rw [show (atN ds i : Int) % 65536 = atN ds i by omega, show (32768 + (ramN ds i : Int)) % 65536 = 32768 + (ramN ds i : Int) by omega]
theorem rd_plc {ds : List Df} {m i : Nat} (hi : i < m) : rd_T50 ((List.range m).map (plc ds)) (i : Int) = plc ds i := by
  unfold rd_T50
  rw [Int.toNat_natCast, List.getD_eq_getElem?_getD, List.getElem?_map, List.getElem?_range hi]
  rfl
theorem rd_df {ds : List Df} {i : Nat} : rd_T36 ds (i : Int) = dfA ds i := by
  unfold rd_T36 dfA
  rw [Int.toNat_natCast]
end Go.Proofs.Ytjphhnhloeanlaa.P
