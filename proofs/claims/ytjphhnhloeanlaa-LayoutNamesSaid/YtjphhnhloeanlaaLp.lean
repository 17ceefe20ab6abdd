/- What layout.Of answers, by a plain function of the definitions. -/
import Derived.Test.YtjphhnhloeanlaaLz
namespace Go.Proofs.Ytjphhnhloeanlaa.P
open Go.RowKit Go.Proofs.YtjphhnhloeanlaaW.PrintWords Go.Proofs.YtjphhnhloeanlaaW.PrintLast Go.Proofs.YtjphhnhloeanlaaW.PrintMore Go.Proofs.Ytjphhnhloeanlaa.Mem
set_option linter.unusedVariables false
set_option linter.unusedSimpArgs false
abbrev Df := S36
abbrev Pl := S50
/-- a definition's bytes of code, its bytes of variables -/
def dsz (d : Df) : Nat := if d.f0 = 1 then 2 + szL d.f3 + 2 else if d.f0 = 3 then 4 else if d.f0 = 2 then 4 else 0
def dby (d : Df) : Nat := if d.f0 = 3 then d.f2.toNat else 0
def atN (ds : List Df) (i : Nat) : Nat := 128 + ((ds.take i).map dsz).sum
def ramN (ds : List Df) (i : Nat) : Nat := ((ds.take i).map dby).sum
def dfA (ds : List Df) (i : Nat) : Df := ds.getD i z36
def plc (ds : List Df) (i : Nat) : Pl := ⟨(dfA ds i).f1, (atN ds i : Int) % 65536, (dsz (dfA ds i) : Int), if (dfA ds i).f0 = 3 then (32768 + (ramN ds i : Int)) % 65536 else 0⟩
/-- the error at definition i, where k places are -/
def errN (ds : List Df) (k i : Nat) : Int := if k = 512 then 110 else if 16384 < atN ds (i + 1) then 111 else if 16384 < ramN ds (i + 1) then 112 else 0
/-- the first definition that has no room -/
def findE (ds : List Df) : Nat → Nat → Option Nat
  | 0, _ => none
  | d + 1, i => if errN ds i i = 0 then findE ds d (i + 1) else some i
/-- places, code, ram, line, column, error -/
abbrev OfT := List Pl × Int × Int × Int × Int × Int
def ofA (ds : List Df) : OfT := match findE ds ds.length 0 with
  | some i => ([], 0, 0, (dfA ds i).f4.f0, (dfA ds i).f4.f1, errN ds i i)
  | none => ((List.range ds.length).map (plc ds), (atN ds ds.length : Int), (ramN ds ds.length : Int), 0, 0, 0)
theorem findE_none (ds : List Df) : ∀ (d i : Nat), findE ds d i = none ↔ ∀ j, i ≤ j → j < i + d → errN ds j j = 0
  | 0, i => by simp only [findE, true_iff]; intro j h1 h2; omega
  | d + 1, i => by
    rw [findE]
    by_cases c : errN ds i i = 0
    · rw [if_pos c, findE_none ds d (i + 1)]
      constructor
      · intro h j h1 h2
        rcases Nat.lt_or_ge i j with h3 | h3
        · exact h j h3 (by omega)
        · obtain rfl : j = i := by omega
          exact c
      · intro h j h1 h2; exact h j (by omega) (by omega)
    · rw [if_neg c]
      constructor
      · intro h; cases h
      · intro h; exact absurd (h i (Nat.le_refl _) (by omega)) c
theorem findE_some (ds : List Df) : ∀ (d i m : Nat), i ≤ m → m < i + d → (∀ j, i ≤ j → j < m → errN ds j j = 0) → errN ds m m ≠ 0 → findE ds d i = some m
  | 0, i, m, h1, h2, _, _ => by omega
  | d + 1, i, m, h1, h2, h3, h4 => by
    rw [findE]
    rcases Nat.lt_or_ge i m with h | h
    · rw [if_pos (h3 i (Nat.le_refl _) h)]
      exact findE_some ds d (i + 1) m h (by omega) (fun j k1 k2 => h3 j (by omega) k2) h4
    · obtain rfl : m = i := by omega
      rw [if_neg h4]
theorem findE_is (ds : List Df) : ∀ (d i m : Nat), findE ds d i = some m → i ≤ m ∧ m < i + d ∧ (∀ j, i ≤ j → j < m → errN ds j j = 0) ∧ errN ds m m ≠ 0
  | 0, i, m, h => by simp [findE] at h
  | d + 1, i, m, h => by
    rw [findE] at h
    by_cases c : errN ds i i = 0
    · rw [if_pos c] at h
      obtain ⟨h1, h2, h3, h4⟩ := findE_is ds d (i + 1) m h
      refine ⟨by omega, by omega, fun j k1 k2 => ?_, h4⟩
      rcases Nat.lt_or_ge i j with h5 | h5
      · exact h3 j h5 k2
      · obtain rfl : j = i := by omega
        exact c
    · rw [if_neg c] at h
      obtain rfl := Option.some.inj h
      exact ⟨Nat.le_refl _, by omega, fun j k1 k2 => by omega, c⟩
theorem ofA_stop {ds : List Df} {m : Nat} (hm : m < ds.length) (h : ∀ j, j < m → errN ds j j = 0) (h4 : errN ds m m ≠ 0) : ofA ds = ([], 0, 0, (dfA ds m).f4.f0, (dfA ds m).f4.f1, errN ds m m) := by
  unfold ofA
  rw [findE_some ds ds.length 0 m (Nat.zero_le _) (by omega) (fun j _ h2 => h j h2) h4]
theorem ofA_done {ds : List Df} (h : ∀ j, j < ds.length → errN ds j j = 0) : ofA ds = ((List.range ds.length).map (plc ds), (atN ds ds.length : Int), (ramN ds ds.length : Int), 0, 0, 0) := by
  unfold ofA
  rw [(findE_none ds ds.length 0).2 (fun j _ h2 => h j (by omega))]
theorem dfA_eq {ds : List Df} {i : Nat} (h : i < ds.length) : dfA ds i = ds[i] := by unfold dfA; rw [List.getD_eq_getElem?_getD, List.getElem?_eq_getElem h]; rfl
theorem atN_succ {ds : List Df} {i : Nat} (h : i < ds.length) : atN ds (i + 1) = atN ds i + dsz (dfA ds i) := by
  unfold atN; rw [dfA_eq h, List.take_succ_eq_append_getElem h, List.map_append, List.sum_append, List.map_cons, List.map_nil, List.sum_cons, List.sum_nil]; omega
theorem ramN_succ {ds : List Df} {i : Nat} (h : i < ds.length) : ramN ds (i + 1) = ramN ds i + dby (dfA ds i) := by
  unfold ramN; rw [dfA_eq h, List.take_succ_eq_append_getElem h, List.map_append, List.sum_append, List.map_cons, List.map_nil, List.sum_cons, List.sum_nil]; omega
/-- how many nodes there are in the definitions -/
def cnD (ds : List Df) : Nat := (ds.map fun d => cnL d.f3).sum
/-- the definitions are not too many, and their numbers are cells -/
structure OkD (ds : List Df) : Prop where
  n : ds.length ≤ 1000000000
  c : cnD ds ≤ 1000000000
  v : ∀ d ∈ ds, 0 ≤ d.f2 ∧ d.f2 ≤ 65535
theorem sum_take {α : Type} (f : α → Nat) (l : List α) (i : Nat) : ((l.take i).map f).sum ≤ (l.map f).sum := by
  have h : (l.map f).sum = ((l.take i).map f).sum + ((l.drop i).map f).sum := by rw [← List.sum_append, ← List.map_append, List.take_append_drop]
  omega
theorem sum_le_mul {α : Type} (f : α → Nat) (B : Nat) : ∀ l : List α, (∀ x ∈ l, f x ≤ B) → (l.map f).sum ≤ B * l.length
  | [], _ => by simp
  | x :: l, h => by
    have h1 := h x List.mem_cons_self
    have h2 := sum_le_mul f B l (fun y hy => h y (List.mem_cons_of_mem _ hy))
    simp only [List.map_cons, List.sum_cons, List.length_cons]
    rw [Nat.mul_add]; omega
theorem sum_dsz : ∀ ds : List Df, (ds.map dsz).sum ≤ 4 * ds.length + 8 * cnD ds
  | [] => by simp [cnD]
  | d :: ds => by
    have h1 := sum_dsz ds
    have h2 : dsz d ≤ 4 + 8 * cnL d.f3 := by
      have := szL_bd (cnL d.f3) d.f3 (Nat.le_refl _)
      unfold dsz
      repeat' split
      all_goals omega
    simp only [List.map_cons, List.sum_cons, List.length_cons, cnD] at *
    omega
theorem atN_bd {ds : List Df} (h : OkD ds) (i : Nat) : atN ds i ≤ 20000000000 := by
  have h1 := sum_take dsz ds i
  have h2 := sum_dsz ds
  have := h.n
  have := h.c
  unfold atN
  omega
theorem ramN_bd {ds : List Df} (h : OkD ds) (i : Nat) : ramN ds i ≤ 70000000000000 := by
  have h1 := sum_take dby ds i
  have h2 := sum_le_mul dby 65535 ds (fun d hd => by have := h.v d hd; unfold dby; split <;> omega)
  have := h.n
  unfold ramN
  omega
theorem cnD_mem {ds : List Df} {d : Df} (h : d ∈ ds) : cnL d.f3 ≤ cnD ds := by
  induction ds with
  | nil => cases h
  | cons y l ih =>
    unfold cnD at *
    rw [List.map_cons, List.sum_cons]
    rcases List.mem_cons.1 h with rfl | h
    · omega
    · have := ih h; omega
theorem dfA_mem {ds : List Df} {i : Nat} (h : i < ds.length) : dfA ds i ∈ ds := by rw [dfA_eq h]; exact List.getElem_mem h
theorem dsz_bd {ds : List Df} (h : OkD ds) {i : Nat} (hi : i < ds.length) : dsz (dfA ds i) ≤ 20000000000 ∧ dby (dfA ds i) ≤ 65535 := by
  have h1 := atN_bd h (i + 1)
  rw [atN_succ hi] at h1
  refine ⟨by omega, ?_⟩
  have := h.v _ (dfA_mem hi)
  unfold dby
  split <;> omega
end Go.Proofs.Ytjphhnhloeanlaa.P
