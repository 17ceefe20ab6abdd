/- Printed by a program of this session (it turns the kit's print): see wip/myprint. -/
import Derived.Test.YtjphhnhloeanlaaPx0
import Derived.Test.YtjphhnhloeanlaaPx3
import Derived.Test.YtjphhnhloeanlaaPx4
import Derived.Test.YtjphhnhloeanlaaPx5
import Derived.Test.YtjphhnhloeanlaaPlaces
namespace Go.Proofs.Ytjphhnhloeanlaa.P
open Go.RowKit Go.Proofs.YtjphhnhloeanlaaW.PrintWords Go.Proofs.YtjphhnhloeanlaaW.PrintLast Go.Proofs.YtjphhnhloeanlaaW.PrintMore Go.Proofs.Ytjphhnhloeanlaa.Mine
attribute [local go_sem] max2_int min2_int max_two min_two max_three min_three max_four min_four   -- for this text's walks alone
set_option linter.unusedVariables false
set_option linter.unusedSimpArgs false

/-! ### wisplaw02_TextNames: function 7 -/
mutual
def wisplaw02_TextNames.j0 : Nat → Bool → Option (Bool)
  | 0, _ => none
  | k + 1, x53 => if x53 = true then (some false) else (wisplaw02_TextNames.l0 k (([(⟨#[]⟩ : ByteArray), (⟨#[45]⟩ : ByteArray), (⟨#[36]⟩ : ByteArray), (⟨#[37]⟩ : ByteArray), (⟨#[36, 70, 70]⟩ : ByteArray), (⟨#[37, 50]⟩ : ByteArray), (⟨#[49, 97]⟩ : ByteArray), (⟨#[45, 45, 49]⟩ : ByteArray), (⟨#[43, 49]⟩ : ByteArray), (⟨#[39, 39]⟩ : ByteArray), (⟨#[39, 97, 98, 39]⟩ : ByteArray), (⟨#[39, 32, 39]⟩ : ByteArray)] : List ByteArray)) 0)
def wisplaw02_TextNames.l0 : Nat → List ByteArray → Int → Option (Bool)
  | 0, _, _ => none
  | k + 1, x1, x2 => if x2 < (x1.length : Int) then (if 0 ≤ x2 then ((wisplaw02_told.f k (rdOf ByteArray.empty x1 x2) 0 20).bind fun t170 => (if t170 = true then (wisplaw02_TextNames.l0 k x1 (wrap64 (x2 + 1))) else (some false))) else (none)) else (wisplaw02_TextNames.l1 k (([(⟨#[120]⟩ : ByteArray), (⟨#[45]⟩ : ByteArray), (⟨#[36]⟩ : ByteArray), (⟨#[36, 103]⟩ : ByteArray), (⟨#[39]⟩ : ByteArray), (⟨#[97, 39, 98]⟩ : ByteArray), (⟨#[92, 120]⟩ : ByteArray)] : List ByteArray)) 0)
def wisplaw02_TextNames.l1 : Nat → List ByteArray → Int → Option (Bool)
  | 0, _, _ => none
  | k + 1, x3, x4 => if x4 < (x3.length : Int) then (if 0 ≤ x4 then ((text_Name.f k (rdOf ByteArray.empty x3 x4)).bind fun t175 => (if t175 = true then (wisplaw02_TextNames.l1 k x3 (wrap64 (x4 + 1))) else (some false))) else (none)) else (wisplaw02_TextNames.l2 k (([(⟨#[]⟩ : ByteArray), (⟨#[45, 49]⟩ : ByteArray), (⟨#[55, 48, 48, 48, 48]⟩ : ByteArray), (⟨#[40]⟩ : ByteArray), (⟨#[92]⟩ : ByteArray), (⟨#[97, 32, 98]⟩ : ByteArray), (⟨#[97, 98, 99, 100, 101, 102, 103, 104, 105, 106, 107, 108, 109, 110, 111, 112, 113, 114, 115, 116, 117, 118, 119, 120, 121, 122, 97, 98, 99, 100, 101, 102]⟩ : ByteArray), (⟨#[195, 169]⟩ : ByteArray)] : List ByteArray)) 0)
def wisplaw02_TextNames.l2 : Nat → List ByteArray → Int → Option (Bool)
  | 0, _, _ => none
  | k + 1, x5, x6 => if x6 < (x5.length : Int) then (if 0 ≤ x6 then ((text_Name.f k (rdOf ByteArray.empty x5 x6)).bind fun t180 => (if t180 = true then (some false) else (wisplaw02_TextNames.l2 k x5 (wrap64 (x6 + 1))))) else (none)) else ((text_Places.f k (⟨#[97, 98, 10, 99, 100, 10]⟩ : ByteArray) (([0, 1, 2, 3, 6, 99, (-5)] : List Int))).bind fun t184 => ((text_Decimal.f k 0).bind fun t187 => (if t187.toList = ([48] : List UInt8) then ((text_Hex.f 0).bind fun t188 => (if t188.toList = ([36, 48, 48, 48, 48] : List UInt8) then ((wisplaw02_same.f k t184 (([(⟨1, 1⟩ : S25), (⟨1, 2⟩ : S25), (⟨1, 3⟩ : S25), (⟨2, 1⟩ : S25), (⟨3, 1⟩ : S25), (⟨3, 1⟩ : S25), (⟨1, 1⟩ : S25)] : List (S25)))).bind fun t192 => (some t192)) else (some false))) else (some false))))
end
def wisplaw02_TextNames.f (k : Nat)  : Option (Bool) := (wisplaw02_fixed.f k).bind fun t154 => (if t154 = true then ((wisplaw02_told.f k (⟨#[55]⟩ : ByteArray) 7 0).bind fun t155 => (if t155 = true then ((wisplaw02_told.f k (⟨#[45, 49]⟩ : ByteArray) 65535 0).bind fun t156 => (if t156 = true then ((wisplaw02_told.f k (⟨#[48, 48, 54, 53, 53, 51, 53]⟩ : ByteArray) 65535 0).bind fun t157 => (if t157 = true then ((wisplaw02_told.f k (⟨#[54, 53, 53, 51, 54]⟩ : ByteArray) 0 21).bind fun t158 => (if t158 = true then ((wisplaw02_told.f k (⟨#[45, 51, 50, 55, 54, 57]⟩ : ByteArray) 0 21).bind fun t159 => (if t159 = true then ((wisplaw02_told.f k (⟨#[45, 51, 50, 55, 54, 56]⟩ : ByteArray) 32768 0).bind fun t160 => (if t160 = true then ((wisplaw02_told.f k (⟨#[45, 48]⟩ : ByteArray) 0 0).bind fun t161 => (if t161 = true then ((wisplaw02_told.f k (⟨#[36, 48, 48, 48, 49, 48, 48, 48, 48]⟩ : ByteArray) 0 21).bind fun t162 => (if t162 = true then ((wisplaw02_told.f k (⟨#[37, 49, 48, 49]⟩ : ByteArray) 5 0).bind fun t163 => (if t163 = true then ((wisplaw02_told.f k (⟨#[39, 97, 39]⟩ : ByteArray) 97 0).bind fun t164 => (if t164 = true then ((wisplaw02_told.f k (⟨#[39, 39, 39]⟩ : ByteArray) 39 0).bind fun t165 => (wisplaw02_TextNames.j0 k (!t165))) else (wisplaw02_TextNames.j0 k true))) else (wisplaw02_TextNames.j0 k true))) else (wisplaw02_TextNames.j0 k true))) else (wisplaw02_TextNames.j0 k true))) else (wisplaw02_TextNames.j0 k true))) else (wisplaw02_TextNames.j0 k true))) else (wisplaw02_TextNames.j0 k true))) else (wisplaw02_TextNames.j0 k true))) else (wisplaw02_TextNames.j0 k true))) else (wisplaw02_TextNames.j0 k true))) else (wisplaw02_TextNames.j0 k true))
theorem wisplaw02_TextNames.mono_l : ∀ k, (∀ y0, LeO (wisplaw02_TextNames.j0 k y0) (wisplaw02_TextNames.j0 (k + 1) y0)) ∧ (∀ y0 y1, LeO (wisplaw02_TextNames.l0 k y0 y1) (wisplaw02_TextNames.l0 (k + 1) y0 y1)) ∧ (∀ y0 y1, LeO (wisplaw02_TextNames.l1 k y0 y1) (wisplaw02_TextNames.l1 (k + 1) y0 y1)) ∧ (∀ y0 y1, LeO (wisplaw02_TextNames.l2 k y0 y1) (wisplaw02_TextNames.l2 (k + 1) y0 y1))
  | 0 => ⟨fun _ r h => by simp [wisplaw02_TextNames.j0] at h, fun _ _ r h => by simp [wisplaw02_TextNames.l0] at h, fun _ _ r h => by simp [wisplaw02_TextNames.l1] at h, fun _ _ r h => by simp [wisplaw02_TextNames.l2] at h⟩
  | k + 1 => by
    obtain ⟨ih0, ih1, ih2, ih3⟩ := wisplaw02_TextNames.mono_l k
    refine ⟨?_, ?_, ?_, ?_⟩
    · intro y0
      unfold wisplaw02_TextNames.j0
      repeat' first
      | (with_reducible exact ih0 _)
      | (with_reducible exact ih1 _ _)
      | (with_reducible exact ih2 _ _)
      | (with_reducible exact ih3 _ _)
      | (with_reducible exact text_Decimal.mono _ _)
      | (with_reducible exact text_Name.mono _ _)
      | (with_reducible exact text_Places.mono _ _ _)
      | (with_reducible exact wisplaw02_fixed.mono _)
      | (with_reducible exact wisplaw02_same.mono _ _ _)
      | (with_reducible exact wisplaw02_told.mono _ _ _ _)
      | (with_reducible exact LeO.refl _)
      | (with_reducible exact LeO.none _)
      | (with_reducible refine LeO.ite ?_ ?_)
      | (with_reducible refine LeO.bind ?_ (fun _ => ?_))
      | exact ih0 _
      | exact ih1 _ _
      | exact ih2 _ _
      | exact ih3 _ _
      | exact text_Decimal.mono _ _
      | exact text_Name.mono _ _
      | exact text_Places.mono _ _ _
      | exact wisplaw02_fixed.mono _
      | exact wisplaw02_same.mono _ _ _
      | exact wisplaw02_told.mono _ _ _ _
      | exact LeO.none _
      | refine LeO.ite ?_ ?_
      | refine LeO.bind ?_ (fun _ => ?_)
    · intro y0 y1
      unfold wisplaw02_TextNames.l0
      repeat' first
      | (with_reducible exact ih0 _)
      | (with_reducible exact ih1 _ _)
      | (with_reducible exact ih2 _ _)
      | (with_reducible exact ih3 _ _)
      | (with_reducible exact text_Decimal.mono _ _)
      | (with_reducible exact text_Name.mono _ _)
      | (with_reducible exact text_Places.mono _ _ _)
      | (with_reducible exact wisplaw02_fixed.mono _)
      | (with_reducible exact wisplaw02_same.mono _ _ _)
      | (with_reducible exact wisplaw02_told.mono _ _ _ _)
      | (with_reducible exact LeO.refl _)
      | (with_reducible exact LeO.none _)
      | (with_reducible refine LeO.ite ?_ ?_)
      | (with_reducible refine LeO.bind ?_ (fun _ => ?_))
      | exact ih0 _
      | exact ih1 _ _
      | exact ih2 _ _
      | exact ih3 _ _
      | exact text_Decimal.mono _ _
      | exact text_Name.mono _ _
      | exact text_Places.mono _ _ _
      | exact wisplaw02_fixed.mono _
      | exact wisplaw02_same.mono _ _ _
      | exact wisplaw02_told.mono _ _ _ _
      | exact LeO.none _
      | refine LeO.ite ?_ ?_
      | refine LeO.bind ?_ (fun _ => ?_)
    · intro y0 y1
      unfold wisplaw02_TextNames.l1
      repeat' first
      | (with_reducible exact ih0 _)
      | (with_reducible exact ih1 _ _)
      | (with_reducible exact ih2 _ _)
      | (with_reducible exact ih3 _ _)
      | (with_reducible exact text_Decimal.mono _ _)
      | (with_reducible exact text_Name.mono _ _)
      | (with_reducible exact text_Places.mono _ _ _)
      | (with_reducible exact wisplaw02_fixed.mono _)
      | (with_reducible exact wisplaw02_same.mono _ _ _)
      | (with_reducible exact wisplaw02_told.mono _ _ _ _)
      | (with_reducible exact LeO.refl _)
      | (with_reducible exact LeO.none _)
      | (with_reducible refine LeO.ite ?_ ?_)
      | (with_reducible refine LeO.bind ?_ (fun _ => ?_))
      | exact ih0 _
      | exact ih1 _ _
      | exact ih2 _ _
      | exact ih3 _ _
      | exact text_Decimal.mono _ _
      | exact text_Name.mono _ _
      | exact text_Places.mono _ _ _
      | exact wisplaw02_fixed.mono _
      | exact wisplaw02_same.mono _ _ _
      | exact wisplaw02_told.mono _ _ _ _
      | exact LeO.none _
      | refine LeO.ite ?_ ?_
      | refine LeO.bind ?_ (fun _ => ?_)
    · intro y0 y1
      unfold wisplaw02_TextNames.l2
      repeat' first
      | (with_reducible exact ih0 _)
      | (with_reducible exact ih1 _ _)
      | (with_reducible exact ih2 _ _)
      | (with_reducible exact ih3 _ _)
      | (with_reducible exact text_Decimal.mono _ _)
      | (with_reducible exact text_Name.mono _ _)
      | (with_reducible exact text_Places.mono _ _ _)
      | (with_reducible exact wisplaw02_fixed.mono _)
      | (with_reducible exact wisplaw02_same.mono _ _ _)
      | (with_reducible exact wisplaw02_told.mono _ _ _ _)
      | (with_reducible exact LeO.refl _)
      | (with_reducible exact LeO.none _)
      | (with_reducible refine LeO.ite ?_ ?_)
      | (with_reducible refine LeO.bind ?_ (fun _ => ?_))
      | exact ih0 _
      | exact ih1 _ _
      | exact ih2 _ _
      | exact ih3 _ _
      | exact text_Decimal.mono _ _
      | exact text_Name.mono _ _
      | exact text_Places.mono _ _ _
      | exact wisplaw02_fixed.mono _
      | exact wisplaw02_same.mono _ _ _
      | exact wisplaw02_told.mono _ _ _ _
      | exact LeO.none _
      | refine LeO.ite ?_ ?_
      | refine LeO.bind ?_ (fun _ => ?_)
theorem wisplaw02_TextNames.mono : ∀ k, LeO (wisplaw02_TextNames.f k ) (wisplaw02_TextNames.f (k + 1) ) := by
  intro  k
  obtain ⟨ih0, ih1, ih2, ih3⟩ := wisplaw02_TextNames.mono_l k
  unfold wisplaw02_TextNames.f
  repeat' first
      | (with_reducible exact ih0 _)
      | (with_reducible exact ih1 _ _)
      | (with_reducible exact ih2 _ _)
      | (with_reducible exact ih3 _ _)
      | (with_reducible exact text_Decimal.mono _ _)
      | (with_reducible exact text_Name.mono _ _)
      | (with_reducible exact text_Places.mono _ _ _)
      | (with_reducible exact wisplaw02_fixed.mono _)
      | (with_reducible exact wisplaw02_same.mono _ _ _)
      | (with_reducible exact wisplaw02_told.mono _ _ _ _)
      | (with_reducible exact LeO.refl _)
      | (with_reducible exact LeO.none _)
      | (with_reducible refine LeO.ite ?_ ?_)
      | (with_reducible refine LeO.bind ?_ (fun _ => ?_))
      | exact ih0 _
      | exact ih1 _ _
      | exact ih2 _ _
      | exact ih3 _ _
      | exact text_Decimal.mono _ _
      | exact text_Name.mono _ _
      | exact text_Places.mono _ _ _
      | exact wisplaw02_fixed.mono _
      | exact wisplaw02_same.mono _ _ _
      | exact wisplaw02_told.mono _ _ _ _
      | exact LeO.none _
      | refine LeO.ite ?_ ?_
      | refine LeO.bind ?_ (fun _ => ?_)
set_option maxHeartbeats 8000000 in
set_option maxRecDepth 100000 in
theorem wisplaw02_TextNames.calls (k : Nat)  (r : Bool) (w : World) (h : wisplaw02_TextNames.f k  = some r) :
    Calls Try.prog 7 #[] w fun e w' => e = .returned (.bool r) ∧ Below w.heap.size w w' := by
  have hu25 := Try.underlying25
  have HB := Aside0.mk (Below.refl w.heap.size w)
  have H : ((wisplaw02_fixed.f k).bind fun t154 => (if t154 = true then ((wisplaw02_told.f k (⟨#[55]⟩ : ByteArray) 7 0).bind fun t155 => (if t155 = true then ((wisplaw02_told.f k (⟨#[45, 49]⟩ : ByteArray) 65535 0).bind fun t156 => (if t156 = true then ((wisplaw02_told.f k (⟨#[48, 48, 54, 53, 53, 51, 53]⟩ : ByteArray) 65535 0).bind fun t157 => (if t157 = true then ((wisplaw02_told.f k (⟨#[54, 53, 53, 51, 54]⟩ : ByteArray) 0 21).bind fun t158 => (if t158 = true then ((wisplaw02_told.f k (⟨#[45, 51, 50, 55, 54, 57]⟩ : ByteArray) 0 21).bind fun t159 => (if t159 = true then ((wisplaw02_told.f k (⟨#[45, 51, 50, 55, 54, 56]⟩ : ByteArray) 32768 0).bind fun t160 => (if t160 = true then ((wisplaw02_told.f k (⟨#[45, 48]⟩ : ByteArray) 0 0).bind fun t161 => (if t161 = true then ((wisplaw02_told.f k (⟨#[36, 48, 48, 48, 49, 48, 48, 48, 48]⟩ : ByteArray) 0 21).bind fun t162 => (if t162 = true then ((wisplaw02_told.f k (⟨#[37, 49, 48, 49]⟩ : ByteArray) 5 0).bind fun t163 => (if t163 = true then ((wisplaw02_told.f k (⟨#[39, 97, 39]⟩ : ByteArray) 97 0).bind fun t164 => (if t164 = true then ((wisplaw02_told.f k (⟨#[39, 39, 39]⟩ : ByteArray) 39 0).bind fun t165 => (wisplaw02_TextNames.j0 k (!t165))) else (wisplaw02_TextNames.j0 k true))) else (wisplaw02_TextNames.j0 k true))) else (wisplaw02_TextNames.j0 k true))) else (wisplaw02_TextNames.j0 k true))) else (wisplaw02_TextNames.j0 k true))) else (wisplaw02_TextNames.j0 k true))) else (wisplaw02_TextNames.j0 k true))) else (wisplaw02_TextNames.j0 k true))) else (wisplaw02_TextNames.j0 k true))) else (wisplaw02_TextNames.j0 k true))) else (wisplaw02_TextNames.j0 k true))) = some r := h
  clear h
  have HC1 := Aside0.mk H
  clear H
  go_enter Try.func7, Try.ntmps7
  go_upto_region 1 with (fail)
  go_cut [53] (fun v53 wc => ∃ (kq : Nat) (x53_0 : Bool), v53 = .bool x53_0 ∧ Aside0 (wisplaw02_TextNames.j0 kq x53_0 = some r) ∧ Aside0 (kq ≤ k) ∧ Aside0 (Below w.heap.size w wc))
  case first =>
    have H := HC1.out
    clear HC1
    replace H := Option.bind_eq_some_iff.mp H
    obtain ⟨t154, A20, H⟩ := H
    replace H : (if t154 = true then ((wisplaw02_told.f k (⟨#[55]⟩ : ByteArray) 7 0).bind fun t155 => (if t155 = true then ((wisplaw02_told.f k (⟨#[45, 49]⟩ : ByteArray) 65535 0).bind fun t156 => (if t156 = true then ((wisplaw02_told.f k (⟨#[48, 48, 54, 53, 53, 51, 53]⟩ : ByteArray) 65535 0).bind fun t157 => (if t157 = true then ((wisplaw02_told.f k (⟨#[54, 53, 53, 51, 54]⟩ : ByteArray) 0 21).bind fun t158 => (if t158 = true then ((wisplaw02_told.f k (⟨#[45, 51, 50, 55, 54, 57]⟩ : ByteArray) 0 21).bind fun t159 => (if t159 = true then ((wisplaw02_told.f k (⟨#[45, 51, 50, 55, 54, 56]⟩ : ByteArray) 32768 0).bind fun t160 => (if t160 = true then ((wisplaw02_told.f k (⟨#[45, 48]⟩ : ByteArray) 0 0).bind fun t161 => (if t161 = true then ((wisplaw02_told.f k (⟨#[36, 48, 48, 48, 49, 48, 48, 48, 48]⟩ : ByteArray) 0 21).bind fun t162 => (if t162 = true then ((wisplaw02_told.f k (⟨#[37, 49, 48, 49]⟩ : ByteArray) 5 0).bind fun t163 => (if t163 = true then ((wisplaw02_told.f k (⟨#[39, 97, 39]⟩ : ByteArray) 97 0).bind fun t164 => (if t164 = true then ((wisplaw02_told.f k (⟨#[39, 39, 39]⟩ : ByteArray) 39 0).bind fun t165 => (wisplaw02_TextNames.j0 k (!t165))) else (wisplaw02_TextNames.j0 k true))) else (wisplaw02_TextNames.j0 k true))) else (wisplaw02_TextNames.j0 k true))) else (wisplaw02_TextNames.j0 k true))) else (wisplaw02_TextNames.j0 k true))) else (wisplaw02_TextNames.j0 k true))) else (wisplaw02_TextNames.j0 k true))) else (wisplaw02_TextNames.j0 k true))) else (wisplaw02_TextNames.j0 k true))) else (wisplaw02_TextNames.j0 k true))) else (wisplaw02_TextNames.j0 k true)) = some r := H
    have A2 := Aside0.mk A20
    clear A20
    by_cases c3 : t154 = true
    · subst c3
      have H1 : ((wisplaw02_told.f k (⟨#[55]⟩ : ByteArray) 7 0).bind fun t155 => (if t155 = true then ((wisplaw02_told.f k (⟨#[45, 49]⟩ : ByteArray) 65535 0).bind fun t156 => (if t156 = true then ((wisplaw02_told.f k (⟨#[48, 48, 54, 53, 53, 51, 53]⟩ : ByteArray) 65535 0).bind fun t157 => (if t157 = true then ((wisplaw02_told.f k (⟨#[54, 53, 53, 51, 54]⟩ : ByteArray) 0 21).bind fun t158 => (if t158 = true then ((wisplaw02_told.f k (⟨#[45, 51, 50, 55, 54, 57]⟩ : ByteArray) 0 21).bind fun t159 => (if t159 = true then ((wisplaw02_told.f k (⟨#[45, 51, 50, 55, 54, 56]⟩ : ByteArray) 32768 0).bind fun t160 => (if t160 = true then ((wisplaw02_told.f k (⟨#[45, 48]⟩ : ByteArray) 0 0).bind fun t161 => (if t161 = true then ((wisplaw02_told.f k (⟨#[36, 48, 48, 48, 49, 48, 48, 48, 48]⟩ : ByteArray) 0 21).bind fun t162 => (if t162 = true then ((wisplaw02_told.f k (⟨#[37, 49, 48, 49]⟩ : ByteArray) 5 0).bind fun t163 => (if t163 = true then ((wisplaw02_told.f k (⟨#[39, 97, 39]⟩ : ByteArray) 97 0).bind fun t164 => (if t164 = true then ((wisplaw02_told.f k (⟨#[39, 39, 39]⟩ : ByteArray) 39 0).bind fun t165 => (wisplaw02_TextNames.j0 k (!t165))) else (wisplaw02_TextNames.j0 k true))) else (wisplaw02_TextNames.j0 k true))) else (wisplaw02_TextNames.j0 k true))) else (wisplaw02_TextNames.j0 k true))) else (wisplaw02_TextNames.j0 k true))) else (wisplaw02_TextNames.j0 k true))) else (wisplaw02_TextNames.j0 k true))) else (wisplaw02_TextNames.j0 k true))) else (wisplaw02_TextNames.j0 k true))) else (wisplaw02_TextNames.j0 k true))) = some r := by rw [if_pos rfl] at H; exact H
      clear H
      have H := H1
      clear H1
      replace H := Option.bind_eq_some_iff.mp H
      obtain ⟨t155, A40, H⟩ := H
      replace H : (if t155 = true then ((wisplaw02_told.f k (⟨#[45, 49]⟩ : ByteArray) 65535 0).bind fun t156 => (if t156 = true then ((wisplaw02_told.f k (⟨#[48, 48, 54, 53, 53, 51, 53]⟩ : ByteArray) 65535 0).bind fun t157 => (if t157 = true then ((wisplaw02_told.f k (⟨#[54, 53, 53, 51, 54]⟩ : ByteArray) 0 21).bind fun t158 => (if t158 = true then ((wisplaw02_told.f k (⟨#[45, 51, 50, 55, 54, 57]⟩ : ByteArray) 0 21).bind fun t159 => (if t159 = true then ((wisplaw02_told.f k (⟨#[45, 51, 50, 55, 54, 56]⟩ : ByteArray) 32768 0).bind fun t160 => (if t160 = true then ((wisplaw02_told.f k (⟨#[45, 48]⟩ : ByteArray) 0 0).bind fun t161 => (if t161 = true then ((wisplaw02_told.f k (⟨#[36, 48, 48, 48, 49, 48, 48, 48, 48]⟩ : ByteArray) 0 21).bind fun t162 => (if t162 = true then ((wisplaw02_told.f k (⟨#[37, 49, 48, 49]⟩ : ByteArray) 5 0).bind fun t163 => (if t163 = true then ((wisplaw02_told.f k (⟨#[39, 97, 39]⟩ : ByteArray) 97 0).bind fun t164 => (if t164 = true then ((wisplaw02_told.f k (⟨#[39, 39, 39]⟩ : ByteArray) 39 0).bind fun t165 => (wisplaw02_TextNames.j0 k (!t165))) else (wisplaw02_TextNames.j0 k true))) else (wisplaw02_TextNames.j0 k true))) else (wisplaw02_TextNames.j0 k true))) else (wisplaw02_TextNames.j0 k true))) else (wisplaw02_TextNames.j0 k true))) else (wisplaw02_TextNames.j0 k true))) else (wisplaw02_TextNames.j0 k true))) else (wisplaw02_TextNames.j0 k true))) else (wisplaw02_TextNames.j0 k true))) else (wisplaw02_TextNames.j0 k true)) = some r := H
      have A4 := Aside0.mk A40
      clear A40
      by_cases c5 : t155 = true
      · subst c5
        have H1 : ((wisplaw02_told.f k (⟨#[45, 49]⟩ : ByteArray) 65535 0).bind fun t156 => (if t156 = true then ((wisplaw02_told.f k (⟨#[48, 48, 54, 53, 53, 51, 53]⟩ : ByteArray) 65535 0).bind fun t157 => (if t157 = true then ((wisplaw02_told.f k (⟨#[54, 53, 53, 51, 54]⟩ : ByteArray) 0 21).bind fun t158 => (if t158 = true then ((wisplaw02_told.f k (⟨#[45, 51, 50, 55, 54, 57]⟩ : ByteArray) 0 21).bind fun t159 => (if t159 = true then ((wisplaw02_told.f k (⟨#[45, 51, 50, 55, 54, 56]⟩ : ByteArray) 32768 0).bind fun t160 => (if t160 = true then ((wisplaw02_told.f k (⟨#[45, 48]⟩ : ByteArray) 0 0).bind fun t161 => (if t161 = true then ((wisplaw02_told.f k (⟨#[36, 48, 48, 48, 49, 48, 48, 48, 48]⟩ : ByteArray) 0 21).bind fun t162 => (if t162 = true then ((wisplaw02_told.f k (⟨#[37, 49, 48, 49]⟩ : ByteArray) 5 0).bind fun t163 => (if t163 = true then ((wisplaw02_told.f k (⟨#[39, 97, 39]⟩ : ByteArray) 97 0).bind fun t164 => (if t164 = true then ((wisplaw02_told.f k (⟨#[39, 39, 39]⟩ : ByteArray) 39 0).bind fun t165 => (wisplaw02_TextNames.j0 k (!t165))) else (wisplaw02_TextNames.j0 k true))) else (wisplaw02_TextNames.j0 k true))) else (wisplaw02_TextNames.j0 k true))) else (wisplaw02_TextNames.j0 k true))) else (wisplaw02_TextNames.j0 k true))) else (wisplaw02_TextNames.j0 k true))) else (wisplaw02_TextNames.j0 k true))) else (wisplaw02_TextNames.j0 k true))) else (wisplaw02_TextNames.j0 k true))) = some r := by rw [if_pos rfl] at H; exact H
        clear H
        have H := H1
        clear H1
        replace H := Option.bind_eq_some_iff.mp H
        obtain ⟨t156, A60, H⟩ := H
        replace H : (if t156 = true then ((wisplaw02_told.f k (⟨#[48, 48, 54, 53, 53, 51, 53]⟩ : ByteArray) 65535 0).bind fun t157 => (if t157 = true then ((wisplaw02_told.f k (⟨#[54, 53, 53, 51, 54]⟩ : ByteArray) 0 21).bind fun t158 => (if t158 = true then ((wisplaw02_told.f k (⟨#[45, 51, 50, 55, 54, 57]⟩ : ByteArray) 0 21).bind fun t159 => (if t159 = true then ((wisplaw02_told.f k (⟨#[45, 51, 50, 55, 54, 56]⟩ : ByteArray) 32768 0).bind fun t160 => (if t160 = true then ((wisplaw02_told.f k (⟨#[45, 48]⟩ : ByteArray) 0 0).bind fun t161 => (if t161 = true then ((wisplaw02_told.f k (⟨#[36, 48, 48, 48, 49, 48, 48, 48, 48]⟩ : ByteArray) 0 21).bind fun t162 => (if t162 = true then ((wisplaw02_told.f k (⟨#[37, 49, 48, 49]⟩ : ByteArray) 5 0).bind fun t163 => (if t163 = true then ((wisplaw02_told.f k (⟨#[39, 97, 39]⟩ : ByteArray) 97 0).bind fun t164 => (if t164 = true then ((wisplaw02_told.f k (⟨#[39, 39, 39]⟩ : ByteArray) 39 0).bind fun t165 => (wisplaw02_TextNames.j0 k (!t165))) else (wisplaw02_TextNames.j0 k true))) else (wisplaw02_TextNames.j0 k true))) else (wisplaw02_TextNames.j0 k true))) else (wisplaw02_TextNames.j0 k true))) else (wisplaw02_TextNames.j0 k true))) else (wisplaw02_TextNames.j0 k true))) else (wisplaw02_TextNames.j0 k true))) else (wisplaw02_TextNames.j0 k true))) else (wisplaw02_TextNames.j0 k true)) = some r := H
        have A6 := Aside0.mk A60
        clear A60
        by_cases c7 : t156 = true
        · subst c7
          have H1 : ((wisplaw02_told.f k (⟨#[48, 48, 54, 53, 53, 51, 53]⟩ : ByteArray) 65535 0).bind fun t157 => (if t157 = true then ((wisplaw02_told.f k (⟨#[54, 53, 53, 51, 54]⟩ : ByteArray) 0 21).bind fun t158 => (if t158 = true then ((wisplaw02_told.f k (⟨#[45, 51, 50, 55, 54, 57]⟩ : ByteArray) 0 21).bind fun t159 => (if t159 = true then ((wisplaw02_told.f k (⟨#[45, 51, 50, 55, 54, 56]⟩ : ByteArray) 32768 0).bind fun t160 => (if t160 = true then ((wisplaw02_told.f k (⟨#[45, 48]⟩ : ByteArray) 0 0).bind fun t161 => (if t161 = true then ((wisplaw02_told.f k (⟨#[36, 48, 48, 48, 49, 48, 48, 48, 48]⟩ : ByteArray) 0 21).bind fun t162 => (if t162 = true then ((wisplaw02_told.f k (⟨#[37, 49, 48, 49]⟩ : ByteArray) 5 0).bind fun t163 => (if t163 = true then ((wisplaw02_told.f k (⟨#[39, 97, 39]⟩ : ByteArray) 97 0).bind fun t164 => (if t164 = true then ((wisplaw02_told.f k (⟨#[39, 39, 39]⟩ : ByteArray) 39 0).bind fun t165 => (wisplaw02_TextNames.j0 k (!t165))) else (wisplaw02_TextNames.j0 k true))) else (wisplaw02_TextNames.j0 k true))) else (wisplaw02_TextNames.j0 k true))) else (wisplaw02_TextNames.j0 k true))) else (wisplaw02_TextNames.j0 k true))) else (wisplaw02_TextNames.j0 k true))) else (wisplaw02_TextNames.j0 k true))) else (wisplaw02_TextNames.j0 k true))) = some r := by rw [if_pos rfl] at H; exact H
          clear H
          have H := H1
          clear H1
          replace H := Option.bind_eq_some_iff.mp H
          obtain ⟨t157, A80, H⟩ := H
          replace H : (if t157 = true then ((wisplaw02_told.f k (⟨#[54, 53, 53, 51, 54]⟩ : ByteArray) 0 21).bind fun t158 => (if t158 = true then ((wisplaw02_told.f k (⟨#[45, 51, 50, 55, 54, 57]⟩ : ByteArray) 0 21).bind fun t159 => (if t159 = true then ((wisplaw02_told.f k (⟨#[45, 51, 50, 55, 54, 56]⟩ : ByteArray) 32768 0).bind fun t160 => (if t160 = true then ((wisplaw02_told.f k (⟨#[45, 48]⟩ : ByteArray) 0 0).bind fun t161 => (if t161 = true then ((wisplaw02_told.f k (⟨#[36, 48, 48, 48, 49, 48, 48, 48, 48]⟩ : ByteArray) 0 21).bind fun t162 => (if t162 = true then ((wisplaw02_told.f k (⟨#[37, 49, 48, 49]⟩ : ByteArray) 5 0).bind fun t163 => (if t163 = true then ((wisplaw02_told.f k (⟨#[39, 97, 39]⟩ : ByteArray) 97 0).bind fun t164 => (if t164 = true then ((wisplaw02_told.f k (⟨#[39, 39, 39]⟩ : ByteArray) 39 0).bind fun t165 => (wisplaw02_TextNames.j0 k (!t165))) else (wisplaw02_TextNames.j0 k true))) else (wisplaw02_TextNames.j0 k true))) else (wisplaw02_TextNames.j0 k true))) else (wisplaw02_TextNames.j0 k true))) else (wisplaw02_TextNames.j0 k true))) else (wisplaw02_TextNames.j0 k true))) else (wisplaw02_TextNames.j0 k true))) else (wisplaw02_TextNames.j0 k true)) = some r := H
          have A8 := Aside0.mk A80
          clear A80
          by_cases c9 : t157 = true
          · subst c9
            have H1 : ((wisplaw02_told.f k (⟨#[54, 53, 53, 51, 54]⟩ : ByteArray) 0 21).bind fun t158 => (if t158 = true then ((wisplaw02_told.f k (⟨#[45, 51, 50, 55, 54, 57]⟩ : ByteArray) 0 21).bind fun t159 => (if t159 = true then ((wisplaw02_told.f k (⟨#[45, 51, 50, 55, 54, 56]⟩ : ByteArray) 32768 0).bind fun t160 => (if t160 = true then ((wisplaw02_told.f k (⟨#[45, 48]⟩ : ByteArray) 0 0).bind fun t161 => (if t161 = true then ((wisplaw02_told.f k (⟨#[36, 48, 48, 48, 49, 48, 48, 48, 48]⟩ : ByteArray) 0 21).bind fun t162 => (if t162 = true then ((wisplaw02_told.f k (⟨#[37, 49, 48, 49]⟩ : ByteArray) 5 0).bind fun t163 => (if t163 = true then ((wisplaw02_told.f k (⟨#[39, 97, 39]⟩ : ByteArray) 97 0).bind fun t164 => (if t164 = true then ((wisplaw02_told.f k (⟨#[39, 39, 39]⟩ : ByteArray) 39 0).bind fun t165 => (wisplaw02_TextNames.j0 k (!t165))) else (wisplaw02_TextNames.j0 k true))) else (wisplaw02_TextNames.j0 k true))) else (wisplaw02_TextNames.j0 k true))) else (wisplaw02_TextNames.j0 k true))) else (wisplaw02_TextNames.j0 k true))) else (wisplaw02_TextNames.j0 k true))) else (wisplaw02_TextNames.j0 k true))) = some r := by rw [if_pos rfl] at H; exact H
            clear H
            have H := H1
            clear H1
            replace H := Option.bind_eq_some_iff.mp H
            obtain ⟨t158, A100, H⟩ := H
            replace H : (if t158 = true then ((wisplaw02_told.f k (⟨#[45, 51, 50, 55, 54, 57]⟩ : ByteArray) 0 21).bind fun t159 => (if t159 = true then ((wisplaw02_told.f k (⟨#[45, 51, 50, 55, 54, 56]⟩ : ByteArray) 32768 0).bind fun t160 => (if t160 = true then ((wisplaw02_told.f k (⟨#[45, 48]⟩ : ByteArray) 0 0).bind fun t161 => (if t161 = true then ((wisplaw02_told.f k (⟨#[36, 48, 48, 48, 49, 48, 48, 48, 48]⟩ : ByteArray) 0 21).bind fun t162 => (if t162 = true then ((wisplaw02_told.f k (⟨#[37, 49, 48, 49]⟩ : ByteArray) 5 0).bind fun t163 => (if t163 = true then ((wisplaw02_told.f k (⟨#[39, 97, 39]⟩ : ByteArray) 97 0).bind fun t164 => (if t164 = true then ((wisplaw02_told.f k (⟨#[39, 39, 39]⟩ : ByteArray) 39 0).bind fun t165 => (wisplaw02_TextNames.j0 k (!t165))) else (wisplaw02_TextNames.j0 k true))) else (wisplaw02_TextNames.j0 k true))) else (wisplaw02_TextNames.j0 k true))) else (wisplaw02_TextNames.j0 k true))) else (wisplaw02_TextNames.j0 k true))) else (wisplaw02_TextNames.j0 k true))) else (wisplaw02_TextNames.j0 k true)) = some r := H
            have A10 := Aside0.mk A100
            clear A100
            by_cases c11 : t158 = true
            · subst c11
              have H1 : ((wisplaw02_told.f k (⟨#[45, 51, 50, 55, 54, 57]⟩ : ByteArray) 0 21).bind fun t159 => (if t159 = true then ((wisplaw02_told.f k (⟨#[45, 51, 50, 55, 54, 56]⟩ : ByteArray) 32768 0).bind fun t160 => (if t160 = true then ((wisplaw02_told.f k (⟨#[45, 48]⟩ : ByteArray) 0 0).bind fun t161 => (if t161 = true then ((wisplaw02_told.f k (⟨#[36, 48, 48, 48, 49, 48, 48, 48, 48]⟩ : ByteArray) 0 21).bind fun t162 => (if t162 = true then ((wisplaw02_told.f k (⟨#[37, 49, 48, 49]⟩ : ByteArray) 5 0).bind fun t163 => (if t163 = true then ((wisplaw02_told.f k (⟨#[39, 97, 39]⟩ : ByteArray) 97 0).bind fun t164 => (if t164 = true then ((wisplaw02_told.f k (⟨#[39, 39, 39]⟩ : ByteArray) 39 0).bind fun t165 => (wisplaw02_TextNames.j0 k (!t165))) else (wisplaw02_TextNames.j0 k true))) else (wisplaw02_TextNames.j0 k true))) else (wisplaw02_TextNames.j0 k true))) else (wisplaw02_TextNames.j0 k true))) else (wisplaw02_TextNames.j0 k true))) else (wisplaw02_TextNames.j0 k true))) = some r := by rw [if_pos rfl] at H; exact H
              clear H
              have H := H1
              clear H1
              replace H := Option.bind_eq_some_iff.mp H
              obtain ⟨t159, A120, H⟩ := H
              replace H : (if t159 = true then ((wisplaw02_told.f k (⟨#[45, 51, 50, 55, 54, 56]⟩ : ByteArray) 32768 0).bind fun t160 => (if t160 = true then ((wisplaw02_told.f k (⟨#[45, 48]⟩ : ByteArray) 0 0).bind fun t161 => (if t161 = true then ((wisplaw02_told.f k (⟨#[36, 48, 48, 48, 49, 48, 48, 48, 48]⟩ : ByteArray) 0 21).bind fun t162 => (if t162 = true then ((wisplaw02_told.f k (⟨#[37, 49, 48, 49]⟩ : ByteArray) 5 0).bind fun t163 => (if t163 = true then ((wisplaw02_told.f k (⟨#[39, 97, 39]⟩ : ByteArray) 97 0).bind fun t164 => (if t164 = true then ((wisplaw02_told.f k (⟨#[39, 39, 39]⟩ : ByteArray) 39 0).bind fun t165 => (wisplaw02_TextNames.j0 k (!t165))) else (wisplaw02_TextNames.j0 k true))) else (wisplaw02_TextNames.j0 k true))) else (wisplaw02_TextNames.j0 k true))) else (wisplaw02_TextNames.j0 k true))) else (wisplaw02_TextNames.j0 k true))) else (wisplaw02_TextNames.j0 k true)) = some r := H
              have A12 := Aside0.mk A120
              clear A120
              by_cases c13 : t159 = true
              · subst c13
                have H1 : ((wisplaw02_told.f k (⟨#[45, 51, 50, 55, 54, 56]⟩ : ByteArray) 32768 0).bind fun t160 => (if t160 = true then ((wisplaw02_told.f k (⟨#[45, 48]⟩ : ByteArray) 0 0).bind fun t161 => (if t161 = true then ((wisplaw02_told.f k (⟨#[36, 48, 48, 48, 49, 48, 48, 48, 48]⟩ : ByteArray) 0 21).bind fun t162 => (if t162 = true then ((wisplaw02_told.f k (⟨#[37, 49, 48, 49]⟩ : ByteArray) 5 0).bind fun t163 => (if t163 = true then ((wisplaw02_told.f k (⟨#[39, 97, 39]⟩ : ByteArray) 97 0).bind fun t164 => (if t164 = true then ((wisplaw02_told.f k (⟨#[39, 39, 39]⟩ : ByteArray) 39 0).bind fun t165 => (wisplaw02_TextNames.j0 k (!t165))) else (wisplaw02_TextNames.j0 k true))) else (wisplaw02_TextNames.j0 k true))) else (wisplaw02_TextNames.j0 k true))) else (wisplaw02_TextNames.j0 k true))) else (wisplaw02_TextNames.j0 k true))) = some r := by rw [if_pos rfl] at H; exact H
                clear H
                have H := H1
                clear H1
                replace H := Option.bind_eq_some_iff.mp H
                obtain ⟨t160, A140, H⟩ := H
                replace H : (if t160 = true then ((wisplaw02_told.f k (⟨#[45, 48]⟩ : ByteArray) 0 0).bind fun t161 => (if t161 = true then ((wisplaw02_told.f k (⟨#[36, 48, 48, 48, 49, 48, 48, 48, 48]⟩ : ByteArray) 0 21).bind fun t162 => (if t162 = true then ((wisplaw02_told.f k (⟨#[37, 49, 48, 49]⟩ : ByteArray) 5 0).bind fun t163 => (if t163 = true then ((wisplaw02_told.f k (⟨#[39, 97, 39]⟩ : ByteArray) 97 0).bind fun t164 => (if t164 = true then ((wisplaw02_told.f k (⟨#[39, 39, 39]⟩ : ByteArray) 39 0).bind fun t165 => (wisplaw02_TextNames.j0 k (!t165))) else (wisplaw02_TextNames.j0 k true))) else (wisplaw02_TextNames.j0 k true))) else (wisplaw02_TextNames.j0 k true))) else (wisplaw02_TextNames.j0 k true))) else (wisplaw02_TextNames.j0 k true)) = some r := H
                have A14 := Aside0.mk A140
                clear A140
                by_cases c15 : t160 = true
                · subst c15
                  have H1 : ((wisplaw02_told.f k (⟨#[45, 48]⟩ : ByteArray) 0 0).bind fun t161 => (if t161 = true then ((wisplaw02_told.f k (⟨#[36, 48, 48, 48, 49, 48, 48, 48, 48]⟩ : ByteArray) 0 21).bind fun t162 => (if t162 = true then ((wisplaw02_told.f k (⟨#[37, 49, 48, 49]⟩ : ByteArray) 5 0).bind fun t163 => (if t163 = true then ((wisplaw02_told.f k (⟨#[39, 97, 39]⟩ : ByteArray) 97 0).bind fun t164 => (if t164 = true then ((wisplaw02_told.f k (⟨#[39, 39, 39]⟩ : ByteArray) 39 0).bind fun t165 => (wisplaw02_TextNames.j0 k (!t165))) else (wisplaw02_TextNames.j0 k true))) else (wisplaw02_TextNames.j0 k true))) else (wisplaw02_TextNames.j0 k true))) else (wisplaw02_TextNames.j0 k true))) = some r := by rw [if_pos rfl] at H; exact H
                  clear H
                  have H := H1
                  clear H1
                  replace H := Option.bind_eq_some_iff.mp H
                  obtain ⟨t161, A160, H⟩ := H
                  replace H : (if t161 = true then ((wisplaw02_told.f k (⟨#[36, 48, 48, 48, 49, 48, 48, 48, 48]⟩ : ByteArray) 0 21).bind fun t162 => (if t162 = true then ((wisplaw02_told.f k (⟨#[37, 49, 48, 49]⟩ : ByteArray) 5 0).bind fun t163 => (if t163 = true then ((wisplaw02_told.f k (⟨#[39, 97, 39]⟩ : ByteArray) 97 0).bind fun t164 => (if t164 = true then ((wisplaw02_told.f k (⟨#[39, 39, 39]⟩ : ByteArray) 39 0).bind fun t165 => (wisplaw02_TextNames.j0 k (!t165))) else (wisplaw02_TextNames.j0 k true))) else (wisplaw02_TextNames.j0 k true))) else (wisplaw02_TextNames.j0 k true))) else (wisplaw02_TextNames.j0 k true)) = some r := H
                  have A16 := Aside0.mk A160
                  clear A160
                  by_cases c17 : t161 = true
                  · subst c17
                    have H1 : ((wisplaw02_told.f k (⟨#[36, 48, 48, 48, 49, 48, 48, 48, 48]⟩ : ByteArray) 0 21).bind fun t162 => (if t162 = true then ((wisplaw02_told.f k (⟨#[37, 49, 48, 49]⟩ : ByteArray) 5 0).bind fun t163 => (if t163 = true then ((wisplaw02_told.f k (⟨#[39, 97, 39]⟩ : ByteArray) 97 0).bind fun t164 => (if t164 = true then ((wisplaw02_told.f k (⟨#[39, 39, 39]⟩ : ByteArray) 39 0).bind fun t165 => (wisplaw02_TextNames.j0 k (!t165))) else (wisplaw02_TextNames.j0 k true))) else (wisplaw02_TextNames.j0 k true))) else (wisplaw02_TextNames.j0 k true))) = some r := by rw [if_pos rfl] at H; exact H
                    clear H
                    have H := H1
                    clear H1
                    replace H := Option.bind_eq_some_iff.mp H
                    obtain ⟨t162, A180, H⟩ := H
                    replace H : (if t162 = true then ((wisplaw02_told.f k (⟨#[37, 49, 48, 49]⟩ : ByteArray) 5 0).bind fun t163 => (if t163 = true then ((wisplaw02_told.f k (⟨#[39, 97, 39]⟩ : ByteArray) 97 0).bind fun t164 => (if t164 = true then ((wisplaw02_told.f k (⟨#[39, 39, 39]⟩ : ByteArray) 39 0).bind fun t165 => (wisplaw02_TextNames.j0 k (!t165))) else (wisplaw02_TextNames.j0 k true))) else (wisplaw02_TextNames.j0 k true))) else (wisplaw02_TextNames.j0 k true)) = some r := H
                    have A18 := Aside0.mk A180
                    clear A180
                    by_cases c19 : t162 = true
                    · subst c19
                      have H1 : ((wisplaw02_told.f k (⟨#[37, 49, 48, 49]⟩ : ByteArray) 5 0).bind fun t163 => (if t163 = true then ((wisplaw02_told.f k (⟨#[39, 97, 39]⟩ : ByteArray) 97 0).bind fun t164 => (if t164 = true then ((wisplaw02_told.f k (⟨#[39, 39, 39]⟩ : ByteArray) 39 0).bind fun t165 => (wisplaw02_TextNames.j0 k (!t165))) else (wisplaw02_TextNames.j0 k true))) else (wisplaw02_TextNames.j0 k true))) = some r := by rw [if_pos rfl] at H; exact H
                      clear H
                      have H := H1
                      clear H1
                      replace H := Option.bind_eq_some_iff.mp H
                      obtain ⟨t163, A200, H⟩ := H
                      replace H : (if t163 = true then ((wisplaw02_told.f k (⟨#[39, 97, 39]⟩ : ByteArray) 97 0).bind fun t164 => (if t164 = true then ((wisplaw02_told.f k (⟨#[39, 39, 39]⟩ : ByteArray) 39 0).bind fun t165 => (wisplaw02_TextNames.j0 k (!t165))) else (wisplaw02_TextNames.j0 k true))) else (wisplaw02_TextNames.j0 k true)) = some r := H
                      have A20 := Aside0.mk A200
                      clear A200
                      by_cases c21 : t163 = true
                      · subst c21
                        have H1 : ((wisplaw02_told.f k (⟨#[39, 97, 39]⟩ : ByteArray) 97 0).bind fun t164 => (if t164 = true then ((wisplaw02_told.f k (⟨#[39, 39, 39]⟩ : ByteArray) 39 0).bind fun t165 => (wisplaw02_TextNames.j0 k (!t165))) else (wisplaw02_TextNames.j0 k true))) = some r := by rw [if_pos rfl] at H; exact H
                        clear H
                        have H := H1
                        clear H1
                        replace H := Option.bind_eq_some_iff.mp H
                        obtain ⟨t164, A220, H⟩ := H
                        replace H : (if t164 = true then ((wisplaw02_told.f k (⟨#[39, 39, 39]⟩ : ByteArray) 39 0).bind fun t165 => (wisplaw02_TextNames.j0 k (!t165))) else (wisplaw02_TextNames.j0 k true)) = some r := H
                        have A22 := Aside0.mk A220
                        clear A220
                        by_cases c23 : t164 = true
                        · subst c23
                          have H1 : ((wisplaw02_told.f k (⟨#[39, 39, 39]⟩ : ByteArray) 39 0).bind fun t165 => (wisplaw02_TextNames.j0 k (!t165))) = some r := by rw [if_pos rfl] at H; exact H
                          clear H
                          have H := H1
                          clear H1
                          replace H := Option.bind_eq_some_iff.mp H
                          obtain ⟨t165, A240, H⟩ := H
                          replace H : (wisplaw02_TextNames.j0 k (!t165)) = some r := H
                          have A24 := Aside0.mk A240
                          clear A240
                          have H' := Aside0.mk H
                          clear H
                          go_wp2_with (first | ((with_reducible refine gate_callee (f := 23) rfl ?_); refine goesL_ (some 8) rfl rfl Try.func23 (by kernel_rfl) rfl #[] rfl (by (try simp only [List.map_toArray, List.map_cons, List.map_nil]); first | done | rfl | (simp only [List.length_drop, List.length_take]; rfl)) ?_; (with_reducible refine (wisplaw02_fixed.calls k  true _ A2.out).mono ?_); rintro e w25 ⟨rfl, hb⟩; refine ⟨_, rfl, ?_⟩; have n0_ := Aside0.mk (below_step (by repeat (first | (with_reducible first | exact HB.out | apply below_alloc | apply pw_below_drewN | apply below_drew1) | exact HB.out)) hb); clear HB; have HB := n0_; clear n0_; (try clear hb); (try clear hb2); (try clear hk); (try clear hi)) | (go_at_call 24; (with_reducible refine (wisplaw02_told.calls k (⟨#[55]⟩ : ByteArray) 7 0 true _ A4.out).mono ?_); rintro e w26 ⟨rfl, hb⟩; have n0_ := Aside0.mk (below_step (by repeat (first | (with_reducible first | exact HB.out | apply below_alloc | apply pw_below_drewN | apply below_drew1) | exact HB.out)) hb); clear HB; have HB := n0_; clear n0_; (try clear hb); (try clear hb2); (try clear hk); (try clear hi)) | (go_at_call 24; (with_reducible refine (wisplaw02_told.calls k (⟨#[45, 49]⟩ : ByteArray) 65535 0 true _ A6.out).mono ?_); rintro e w27 ⟨rfl, hb⟩; have n0_ := Aside0.mk (below_step (by repeat (first | (with_reducible first | exact HB.out | apply below_alloc | apply pw_below_drewN | apply below_drew1) | exact HB.out)) hb); clear HB; have HB := n0_; clear n0_; (try clear hb); (try clear hb2); (try clear hk); (try clear hi)) | (go_at_call 24; (with_reducible refine (wisplaw02_told.calls k (⟨#[48, 48, 54, 53, 53, 51, 53]⟩ : ByteArray) 65535 0 true _ A8.out).mono ?_); rintro e w28 ⟨rfl, hb⟩; have n0_ := Aside0.mk (below_step (by repeat (first | (with_reducible first | exact HB.out | apply below_alloc | apply pw_below_drewN | apply below_drew1) | exact HB.out)) hb); clear HB; have HB := n0_; clear n0_; (try clear hb); (try clear hb2); (try clear hk); (try clear hi)) | (go_at_call 24; (with_reducible refine (wisplaw02_told.calls k (⟨#[54, 53, 53, 51, 54]⟩ : ByteArray) 0 21 true _ A10.out).mono ?_); rintro e w29 ⟨rfl, hb⟩; have n0_ := Aside0.mk (below_step (by repeat (first | (with_reducible first | exact HB.out | apply below_alloc | apply pw_below_drewN | apply below_drew1) | exact HB.out)) hb); clear HB; have HB := n0_; clear n0_; (try clear hb); (try clear hb2); (try clear hk); (try clear hi)) | (go_at_call 24; (with_reducible refine (wisplaw02_told.calls k (⟨#[45, 51, 50, 55, 54, 57]⟩ : ByteArray) 0 21 true _ A12.out).mono ?_); rintro e w30 ⟨rfl, hb⟩; have n0_ := Aside0.mk (below_step (by repeat (first | (with_reducible first | exact HB.out | apply below_alloc | apply pw_below_drewN | apply below_drew1) | exact HB.out)) hb); clear HB; have HB := n0_; clear n0_; (try clear hb); (try clear hb2); (try clear hk); (try clear hi)) | (go_at_call 24; (with_reducible refine (wisplaw02_told.calls k (⟨#[45, 51, 50, 55, 54, 56]⟩ : ByteArray) 32768 0 true _ A14.out).mono ?_); rintro e w31 ⟨rfl, hb⟩; have n0_ := Aside0.mk (below_step (by repeat (first | (with_reducible first | exact HB.out | apply below_alloc | apply pw_below_drewN | apply below_drew1) | exact HB.out)) hb); clear HB; have HB := n0_; clear n0_; (try clear hb); (try clear hb2); (try clear hk); (try clear hi)) | (go_at_call 24; (with_reducible refine (wisplaw02_told.calls k (⟨#[45, 48]⟩ : ByteArray) 0 0 true _ A16.out).mono ?_); rintro e w32 ⟨rfl, hb⟩; have n0_ := Aside0.mk (below_step (by repeat (first | (with_reducible first | exact HB.out | apply below_alloc | apply pw_below_drewN | apply below_drew1) | exact HB.out)) hb); clear HB; have HB := n0_; clear n0_; (try clear hb); (try clear hb2); (try clear hk); (try clear hi)) | (go_at_call 24; (with_reducible refine (wisplaw02_told.calls k (⟨#[36, 48, 48, 48, 49, 48, 48, 48, 48]⟩ : ByteArray) 0 21 true _ A18.out).mono ?_); rintro e w33 ⟨rfl, hb⟩; have n0_ := Aside0.mk (below_step (by repeat (first | (with_reducible first | exact HB.out | apply below_alloc | apply pw_below_drewN | apply below_drew1) | exact HB.out)) hb); clear HB; have HB := n0_; clear n0_; (try clear hb); (try clear hb2); (try clear hk); (try clear hi)) | (go_at_call 24; (with_reducible refine (wisplaw02_told.calls k (⟨#[37, 49, 48, 49]⟩ : ByteArray) 5 0 true _ A20.out).mono ?_); rintro e w34 ⟨rfl, hb⟩; have n0_ := Aside0.mk (below_step (by repeat (first | (with_reducible first | exact HB.out | apply below_alloc | apply pw_below_drewN | apply below_drew1) | exact HB.out)) hb); clear HB; have HB := n0_; clear n0_; (try clear hb); (try clear hb2); (try clear hk); (try clear hi)) | (go_at_call 24; (with_reducible refine (wisplaw02_told.calls k (⟨#[39, 97, 39]⟩ : ByteArray) 97 0 true _ A22.out).mono ?_); rintro e w35 ⟨rfl, hb⟩; have n0_ := Aside0.mk (below_step (by repeat (first | (with_reducible first | exact HB.out | apply below_alloc | apply pw_below_drewN | apply below_drew1) | exact HB.out)) hb); clear HB; have HB := n0_; clear n0_; (try clear hb); (try clear hb2); (try clear hk); (try clear hi)) | (go_at_call 24; (with_reducible refine (wisplaw02_told.calls k (⟨#[39, 39, 39]⟩ : ByteArray) 39 0 t165 _ A24.out).mono ?_); rintro e w36 ⟨rfl, hb⟩; have n0_ := Aside0.mk (below_step (by repeat (first | (with_reducible first | exact HB.out | apply below_alloc | apply pw_below_drewN | apply below_drew1) | exact HB.out)) hb); clear HB; have HB := n0_; clear n0_; (try clear hb); (try clear hb2); (try clear hk); (try clear hi)))
                          go_meet
                          case rel => exact ⟨_, (!t165), (by first | rfl | (simp; done) | (simp [*]; done) | (simp [isEmpty_ne]; done)), H', ⟨by first | omega | exact Nat.le_refl _⟩, ⟨by repeat (first | (with_reducible first | exact HB.out | apply below_alloc | apply pw_below_drewN | apply below_drew1) | exact HB.out)⟩⟩
                        · replace c23 := Bool.eq_false_iff.mpr c23
                          subst c23
                          have H1 : (wisplaw02_TextNames.j0 k true) = some r := by rw [if_neg (show ¬ (false = true) by decide)] at H; exact H
                          clear H
                          have H := H1
                          clear H1
                          have H' := Aside0.mk H
                          clear H
                          go_wp2_with (first | ((with_reducible refine gate_callee (f := 23) rfl ?_); refine goesL_ (some 8) rfl rfl Try.func23 (by kernel_rfl) rfl #[] rfl (by (try simp only [List.map_toArray, List.map_cons, List.map_nil]); first | done | rfl | (simp only [List.length_drop, List.length_take]; rfl)) ?_; (with_reducible refine (wisplaw02_fixed.calls k  true _ A2.out).mono ?_); rintro e w37 ⟨rfl, hb⟩; refine ⟨_, rfl, ?_⟩; have n0_ := Aside0.mk (below_step (by repeat (first | (with_reducible first | exact HB.out | apply below_alloc | apply pw_below_drewN | apply below_drew1) | exact HB.out)) hb); clear HB; have HB := n0_; clear n0_; (try clear hb); (try clear hb2); (try clear hk); (try clear hi)) | (go_at_call 24; (with_reducible refine (wisplaw02_told.calls k (⟨#[55]⟩ : ByteArray) 7 0 true _ A4.out).mono ?_); rintro e w38 ⟨rfl, hb⟩; have n0_ := Aside0.mk (below_step (by repeat (first | (with_reducible first | exact HB.out | apply below_alloc | apply pw_below_drewN | apply below_drew1) | exact HB.out)) hb); clear HB; have HB := n0_; clear n0_; (try clear hb); (try clear hb2); (try clear hk); (try clear hi)) | (go_at_call 24; (with_reducible refine (wisplaw02_told.calls k (⟨#[45, 49]⟩ : ByteArray) 65535 0 true _ A6.out).mono ?_); rintro e w39 ⟨rfl, hb⟩; have n0_ := Aside0.mk (below_step (by repeat (first | (with_reducible first | exact HB.out | apply below_alloc | apply pw_below_drewN | apply below_drew1) | exact HB.out)) hb); clear HB; have HB := n0_; clear n0_; (try clear hb); (try clear hb2); (try clear hk); (try clear hi)) | (go_at_call 24; (with_reducible refine (wisplaw02_told.calls k (⟨#[48, 48, 54, 53, 53, 51, 53]⟩ : ByteArray) 65535 0 true _ A8.out).mono ?_); rintro e w40 ⟨rfl, hb⟩; have n0_ := Aside0.mk (below_step (by repeat (first | (with_reducible first | exact HB.out | apply below_alloc | apply pw_below_drewN | apply below_drew1) | exact HB.out)) hb); clear HB; have HB := n0_; clear n0_; (try clear hb); (try clear hb2); (try clear hk); (try clear hi)) | (go_at_call 24; (with_reducible refine (wisplaw02_told.calls k (⟨#[54, 53, 53, 51, 54]⟩ : ByteArray) 0 21 true _ A10.out).mono ?_); rintro e w41 ⟨rfl, hb⟩; have n0_ := Aside0.mk (below_step (by repeat (first | (with_reducible first | exact HB.out | apply below_alloc | apply pw_below_drewN | apply below_drew1) | exact HB.out)) hb); clear HB; have HB := n0_; clear n0_; (try clear hb); (try clear hb2); (try clear hk); (try clear hi)) | (go_at_call 24; (with_reducible refine (wisplaw02_told.calls k (⟨#[45, 51, 50, 55, 54, 57]⟩ : ByteArray) 0 21 true _ A12.out).mono ?_); rintro e w42 ⟨rfl, hb⟩; have n0_ := Aside0.mk (below_step (by repeat (first | (with_reducible first | exact HB.out | apply below_alloc | apply pw_below_drewN | apply below_drew1) | exact HB.out)) hb); clear HB; have HB := n0_; clear n0_; (try clear hb); (try clear hb2); (try clear hk); (try clear hi)) | (go_at_call 24; (with_reducible refine (wisplaw02_told.calls k (⟨#[45, 51, 50, 55, 54, 56]⟩ : ByteArray) 32768 0 true _ A14.out).mono ?_); rintro e w43 ⟨rfl, hb⟩; have n0_ := Aside0.mk (below_step (by repeat (first | (with_reducible first | exact HB.out | apply below_alloc | apply pw_below_drewN | apply below_drew1) | exact HB.out)) hb); clear HB; have HB := n0_; clear n0_; (try clear hb); (try clear hb2); (try clear hk); (try clear hi)) | (go_at_call 24; (with_reducible refine (wisplaw02_told.calls k (⟨#[45, 48]⟩ : ByteArray) 0 0 true _ A16.out).mono ?_); rintro e w44 ⟨rfl, hb⟩; have n0_ := Aside0.mk (below_step (by repeat (first | (with_reducible first | exact HB.out | apply below_alloc | apply pw_below_drewN | apply below_drew1) | exact HB.out)) hb); clear HB; have HB := n0_; clear n0_; (try clear hb); (try clear hb2); (try clear hk); (try clear hi)) | (go_at_call 24; (with_reducible refine (wisplaw02_told.calls k (⟨#[36, 48, 48, 48, 49, 48, 48, 48, 48]⟩ : ByteArray) 0 21 true _ A18.out).mono ?_); rintro e w45 ⟨rfl, hb⟩; have n0_ := Aside0.mk (below_step (by repeat (first | (with_reducible first | exact HB.out | apply below_alloc | apply pw_below_drewN | apply below_drew1) | exact HB.out)) hb); clear HB; have HB := n0_; clear n0_; (try clear hb); (try clear hb2); (try clear hk); (try clear hi)) | (go_at_call 24; (with_reducible refine (wisplaw02_told.calls k (⟨#[37, 49, 48, 49]⟩ : ByteArray) 5 0 true _ A20.out).mono ?_); rintro e w46 ⟨rfl, hb⟩; have n0_ := Aside0.mk (below_step (by repeat (first | (with_reducible first | exact HB.out | apply below_alloc | apply pw_below_drewN | apply below_drew1) | exact HB.out)) hb); clear HB; have HB := n0_; clear n0_; (try clear hb); (try clear hb2); (try clear hk); (try clear hi)) | (go_at_call 24; (with_reducible refine (wisplaw02_told.calls k (⟨#[39, 97, 39]⟩ : ByteArray) 97 0 false _ A22.out).mono ?_); rintro e w47 ⟨rfl, hb⟩; have n0_ := Aside0.mk (below_step (by repeat (first | (with_reducible first | exact HB.out | apply below_alloc | apply pw_below_drewN | apply below_drew1) | exact HB.out)) hb); clear HB; have HB := n0_; clear n0_; (try clear hb); (try clear hb2); (try clear hk); (try clear hi)))
                          go_meet
                          case rel => exact ⟨_, (true), (by first | rfl | (simp; done) | (simp [*]; done) | (simp [isEmpty_ne]; done)), H', ⟨by first | omega | exact Nat.le_refl _⟩, ⟨by repeat (first | (with_reducible first | exact HB.out | apply below_alloc | apply pw_below_drewN | apply below_drew1) | exact HB.out)⟩⟩
                      · replace c21 := Bool.eq_false_iff.mpr c21
                        subst c21
                        have H1 : (wisplaw02_TextNames.j0 k true) = some r := by rw [if_neg (show ¬ (false = true) by decide)] at H; exact H
                        clear H
                        have H := H1
                        clear H1
                        have H' := Aside0.mk H
                        clear H
                        go_wp2_with (first | ((with_reducible refine gate_callee (f := 23) rfl ?_); refine goesL_ (some 8) rfl rfl Try.func23 (by kernel_rfl) rfl #[] rfl (by (try simp only [List.map_toArray, List.map_cons, List.map_nil]); first | done | rfl | (simp only [List.length_drop, List.length_take]; rfl)) ?_; (with_reducible refine (wisplaw02_fixed.calls k  true _ A2.out).mono ?_); rintro e w48 ⟨rfl, hb⟩; refine ⟨_, rfl, ?_⟩; have n0_ := Aside0.mk (below_step (by repeat (first | (with_reducible first | exact HB.out | apply below_alloc | apply pw_below_drewN | apply below_drew1) | exact HB.out)) hb); clear HB; have HB := n0_; clear n0_; (try clear hb); (try clear hb2); (try clear hk); (try clear hi)) | (go_at_call 24; (with_reducible refine (wisplaw02_told.calls k (⟨#[55]⟩ : ByteArray) 7 0 true _ A4.out).mono ?_); rintro e w49 ⟨rfl, hb⟩; have n0_ := Aside0.mk (below_step (by repeat (first | (with_reducible first | exact HB.out | apply below_alloc | apply pw_below_drewN | apply below_drew1) | exact HB.out)) hb); clear HB; have HB := n0_; clear n0_; (try clear hb); (try clear hb2); (try clear hk); (try clear hi)) | (go_at_call 24; (with_reducible refine (wisplaw02_told.calls k (⟨#[45, 49]⟩ : ByteArray) 65535 0 true _ A6.out).mono ?_); rintro e w50 ⟨rfl, hb⟩; have n0_ := Aside0.mk (below_step (by repeat (first | (with_reducible first | exact HB.out | apply below_alloc | apply pw_below_drewN | apply below_drew1) | exact HB.out)) hb); clear HB; have HB := n0_; clear n0_; (try clear hb); (try clear hb2); (try clear hk); (try clear hi)) | (go_at_call 24; (with_reducible refine (wisplaw02_told.calls k (⟨#[48, 48, 54, 53, 53, 51, 53]⟩ : ByteArray) 65535 0 true _ A8.out).mono ?_); rintro e w51 ⟨rfl, hb⟩; have n0_ := Aside0.mk (below_step (by repeat (first | (with_reducible first | exact HB.out | apply below_alloc | apply pw_below_drewN | apply below_drew1) | exact HB.out)) hb); clear HB; have HB := n0_; clear n0_; (try clear hb); (try clear hb2); (try clear hk); (try clear hi)) | (go_at_call 24; (with_reducible refine (wisplaw02_told.calls k (⟨#[54, 53, 53, 51, 54]⟩ : ByteArray) 0 21 true _ A10.out).mono ?_); rintro e w52 ⟨rfl, hb⟩; have n0_ := Aside0.mk (below_step (by repeat (first | (with_reducible first | exact HB.out | apply below_alloc | apply pw_below_drewN | apply below_drew1) | exact HB.out)) hb); clear HB; have HB := n0_; clear n0_; (try clear hb); (try clear hb2); (try clear hk); (try clear hi)) | (go_at_call 24; (with_reducible refine (wisplaw02_told.calls k (⟨#[45, 51, 50, 55, 54, 57]⟩ : ByteArray) 0 21 true _ A12.out).mono ?_); rintro e w53 ⟨rfl, hb⟩; have n0_ := Aside0.mk (below_step (by repeat (first | (with_reducible first | exact HB.out | apply below_alloc | apply pw_below_drewN | apply below_drew1) | exact HB.out)) hb); clear HB; have HB := n0_; clear n0_; (try clear hb); (try clear hb2); (try clear hk); (try clear hi)) | (go_at_call 24; (with_reducible refine (wisplaw02_told.calls k (⟨#[45, 51, 50, 55, 54, 56]⟩ : ByteArray) 32768 0 true _ A14.out).mono ?_); rintro e w54 ⟨rfl, hb⟩; have n0_ := Aside0.mk (below_step (by repeat (first | (with_reducible first | exact HB.out | apply below_alloc | apply pw_below_drewN | apply below_drew1) | exact HB.out)) hb); clear HB; have HB := n0_; clear n0_; (try clear hb); (try clear hb2); (try clear hk); (try clear hi)) | (go_at_call 24; (with_reducible refine (wisplaw02_told.calls k (⟨#[45, 48]⟩ : ByteArray) 0 0 true _ A16.out).mono ?_); rintro e w55 ⟨rfl, hb⟩; have n0_ := Aside0.mk (below_step (by repeat (first | (with_reducible first | exact HB.out | apply below_alloc | apply pw_below_drewN | apply below_drew1) | exact HB.out)) hb); clear HB; have HB := n0_; clear n0_; (try clear hb); (try clear hb2); (try clear hk); (try clear hi)) | (go_at_call 24; (with_reducible refine (wisplaw02_told.calls k (⟨#[36, 48, 48, 48, 49, 48, 48, 48, 48]⟩ : ByteArray) 0 21 true _ A18.out).mono ?_); rintro e w56 ⟨rfl, hb⟩; have n0_ := Aside0.mk (below_step (by repeat (first | (with_reducible first | exact HB.out | apply below_alloc | apply pw_below_drewN | apply below_drew1) | exact HB.out)) hb); clear HB; have HB := n0_; clear n0_; (try clear hb); (try clear hb2); (try clear hk); (try clear hi)) | (go_at_call 24; (with_reducible refine (wisplaw02_told.calls k (⟨#[37, 49, 48, 49]⟩ : ByteArray) 5 0 false _ A20.out).mono ?_); rintro e w57 ⟨rfl, hb⟩; have n0_ := Aside0.mk (below_step (by repeat (first | (with_reducible first | exact HB.out | apply below_alloc | apply pw_below_drewN | apply below_drew1) | exact HB.out)) hb); clear HB; have HB := n0_; clear n0_; (try clear hb); (try clear hb2); (try clear hk); (try clear hi)))
                        go_meet
                        case rel => exact ⟨_, (true), (by first | rfl | (simp; done) | (simp [*]; done) | (simp [isEmpty_ne]; done)), H', ⟨by first | omega | exact Nat.le_refl _⟩, ⟨by repeat (first | (with_reducible first | exact HB.out | apply below_alloc | apply pw_below_drewN | apply below_drew1) | exact HB.out)⟩⟩
                    · replace c19 := Bool.eq_false_iff.mpr c19
                      subst c19
                      have H1 : (wisplaw02_TextNames.j0 k true) = some r := by rw [if_neg (show ¬ (false = true) by decide)] at H; exact H
                      clear H
                      have H := H1
                      clear H1
                      have H' := Aside0.mk H
                      clear H
                      go_wp2_with (first | ((with_reducible refine gate_callee (f := 23) rfl ?_); refine goesL_ (some 8) rfl rfl Try.func23 (by kernel_rfl) rfl #[] rfl (by (try simp only [List.map_toArray, List.map_cons, List.map_nil]); first | done | rfl | (simp only [List.length_drop, List.length_take]; rfl)) ?_; (with_reducible refine (wisplaw02_fixed.calls k  true _ A2.out).mono ?_); rintro e w58 ⟨rfl, hb⟩; refine ⟨_, rfl, ?_⟩; have n0_ := Aside0.mk (below_step (by repeat (first | (with_reducible first | exact HB.out | apply below_alloc | apply pw_below_drewN | apply below_drew1) | exact HB.out)) hb); clear HB; have HB := n0_; clear n0_; (try clear hb); (try clear hb2); (try clear hk); (try clear hi)) | (go_at_call 24; (with_reducible refine (wisplaw02_told.calls k (⟨#[55]⟩ : ByteArray) 7 0 true _ A4.out).mono ?_); rintro e w59 ⟨rfl, hb⟩; have n0_ := Aside0.mk (below_step (by repeat (first | (with_reducible first | exact HB.out | apply below_alloc | apply pw_below_drewN | apply below_drew1) | exact HB.out)) hb); clear HB; have HB := n0_; clear n0_; (try clear hb); (try clear hb2); (try clear hk); (try clear hi)) | (go_at_call 24; (with_reducible refine (wisplaw02_told.calls k (⟨#[45, 49]⟩ : ByteArray) 65535 0 true _ A6.out).mono ?_); rintro e w60 ⟨rfl, hb⟩; have n0_ := Aside0.mk (below_step (by repeat (first | (with_reducible first | exact HB.out | apply below_alloc | apply pw_below_drewN | apply below_drew1) | exact HB.out)) hb); clear HB; have HB := n0_; clear n0_; (try clear hb); (try clear hb2); (try clear hk); (try clear hi)) | (go_at_call 24; (with_reducible refine (wisplaw02_told.calls k (⟨#[48, 48, 54, 53, 53, 51, 53]⟩ : ByteArray) 65535 0 true _ A8.out).mono ?_); rintro e w61 ⟨rfl, hb⟩; have n0_ := Aside0.mk (below_step (by repeat (first | (with_reducible first | exact HB.out | apply below_alloc | apply pw_below_drewN | apply below_drew1) | exact HB.out)) hb); clear HB; have HB := n0_; clear n0_; (try clear hb); (try clear hb2); (try clear hk); (try clear hi)) | (go_at_call 24; (with_reducible refine (wisplaw02_told.calls k (⟨#[54, 53, 53, 51, 54]⟩ : ByteArray) 0 21 true _ A10.out).mono ?_); rintro e w62 ⟨rfl, hb⟩; have n0_ := Aside0.mk (below_step (by repeat (first | (with_reducible first | exact HB.out | apply below_alloc | apply pw_below_drewN | apply below_drew1) | exact HB.out)) hb); clear HB; have HB := n0_; clear n0_; (try clear hb); (try clear hb2); (try clear hk); (try clear hi)) | (go_at_call 24; (with_reducible refine (wisplaw02_told.calls k (⟨#[45, 51, 50, 55, 54, 57]⟩ : ByteArray) 0 21 true _ A12.out).mono ?_); rintro e w63 ⟨rfl, hb⟩; have n0_ := Aside0.mk (below_step (by repeat (first | (with_reducible first | exact HB.out | apply below_alloc | apply pw_below_drewN | apply below_drew1) | exact HB.out)) hb); clear HB; have HB := n0_; clear n0_; (try clear hb); (try clear hb2); (try clear hk); (try clear hi)) | (go_at_call 24; (with_reducible refine (wisplaw02_told.calls k (⟨#[45, 51, 50, 55, 54, 56]⟩ : ByteArray) 32768 0 true _ A14.out).mono ?_); rintro e w64 ⟨rfl, hb⟩; have n0_ := Aside0.mk (below_step (by repeat (first | (with_reducible first | exact HB.out | apply below_alloc | apply pw_below_drewN | apply below_drew1) | exact HB.out)) hb); clear HB; have HB := n0_; clear n0_; (try clear hb); (try clear hb2); (try clear hk); (try clear hi)) | (go_at_call 24; (with_reducible refine (wisplaw02_told.calls k (⟨#[45, 48]⟩ : ByteArray) 0 0 true _ A16.out).mono ?_); rintro e w65 ⟨rfl, hb⟩; have n0_ := Aside0.mk (below_step (by repeat (first | (with_reducible first | exact HB.out | apply below_alloc | apply pw_below_drewN | apply below_drew1) | exact HB.out)) hb); clear HB; have HB := n0_; clear n0_; (try clear hb); (try clear hb2); (try clear hk); (try clear hi)) | (go_at_call 24; (with_reducible refine (wisplaw02_told.calls k (⟨#[36, 48, 48, 48, 49, 48, 48, 48, 48]⟩ : ByteArray) 0 21 false _ A18.out).mono ?_); rintro e w66 ⟨rfl, hb⟩; have n0_ := Aside0.mk (below_step (by repeat (first | (with_reducible first | exact HB.out | apply below_alloc | apply pw_below_drewN | apply below_drew1) | exact HB.out)) hb); clear HB; have HB := n0_; clear n0_; (try clear hb); (try clear hb2); (try clear hk); (try clear hi)))
                      go_meet
                      case rel => exact ⟨_, (true), (by first | rfl | (simp; done) | (simp [*]; done) | (simp [isEmpty_ne]; done)), H', ⟨by first | omega | exact Nat.le_refl _⟩, ⟨by repeat (first | (with_reducible first | exact HB.out | apply below_alloc | apply pw_below_drewN | apply below_drew1) | exact HB.out)⟩⟩
                  · replace c17 := Bool.eq_false_iff.mpr c17
                    subst c17
                    have H1 : (wisplaw02_TextNames.j0 k true) = some r := by rw [if_neg (show ¬ (false = true) by decide)] at H; exact H
                    clear H
                    have H := H1
                    clear H1
                    have H' := Aside0.mk H
                    clear H
                    go_wp2_with (first | ((with_reducible refine gate_callee (f := 23) rfl ?_); refine goesL_ (some 8) rfl rfl Try.func23 (by kernel_rfl) rfl #[] rfl (by (try simp only [List.map_toArray, List.map_cons, List.map_nil]); first | done | rfl | (simp only [List.length_drop, List.length_take]; rfl)) ?_; (with_reducible refine (wisplaw02_fixed.calls k  true _ A2.out).mono ?_); rintro e w67 ⟨rfl, hb⟩; refine ⟨_, rfl, ?_⟩; have n0_ := Aside0.mk (below_step (by repeat (first | (with_reducible first | exact HB.out | apply below_alloc | apply pw_below_drewN | apply below_drew1) | exact HB.out)) hb); clear HB; have HB := n0_; clear n0_; (try clear hb); (try clear hb2); (try clear hk); (try clear hi)) | (go_at_call 24; (with_reducible refine (wisplaw02_told.calls k (⟨#[55]⟩ : ByteArray) 7 0 true _ A4.out).mono ?_); rintro e w68 ⟨rfl, hb⟩; have n0_ := Aside0.mk (below_step (by repeat (first | (with_reducible first | exact HB.out | apply below_alloc | apply pw_below_drewN | apply below_drew1) | exact HB.out)) hb); clear HB; have HB := n0_; clear n0_; (try clear hb); (try clear hb2); (try clear hk); (try clear hi)) | (go_at_call 24; (with_reducible refine (wisplaw02_told.calls k (⟨#[45, 49]⟩ : ByteArray) 65535 0 true _ A6.out).mono ?_); rintro e w69 ⟨rfl, hb⟩; have n0_ := Aside0.mk (below_step (by repeat (first | (with_reducible first | exact HB.out | apply below_alloc | apply pw_below_drewN | apply below_drew1) | exact HB.out)) hb); clear HB; have HB := n0_; clear n0_; (try clear hb); (try clear hb2); (try clear hk); (try clear hi)) | (go_at_call 24; (with_reducible refine (wisplaw02_told.calls k (⟨#[48, 48, 54, 53, 53, 51, 53]⟩ : ByteArray) 65535 0 true _ A8.out).mono ?_); rintro e w70 ⟨rfl, hb⟩; have n0_ := Aside0.mk (below_step (by repeat (first | (with_reducible first | exact HB.out | apply below_alloc | apply pw_below_drewN | apply below_drew1) | exact HB.out)) hb); clear HB; have HB := n0_; clear n0_; (try clear hb); (try clear hb2); (try clear hk); (try clear hi)) | (go_at_call 24; (with_reducible refine (wisplaw02_told.calls k (⟨#[54, 53, 53, 51, 54]⟩ : ByteArray) 0 21 true _ A10.out).mono ?_); rintro e w71 ⟨rfl, hb⟩; have n0_ := Aside0.mk (below_step (by repeat (first | (with_reducible first | exact HB.out | apply below_alloc | apply pw_below_drewN | apply below_drew1) | exact HB.out)) hb); clear HB; have HB := n0_; clear n0_; (try clear hb); (try clear hb2); (try clear hk); (try clear hi)) | (go_at_call 24; (with_reducible refine (wisplaw02_told.calls k (⟨#[45, 51, 50, 55, 54, 57]⟩ : ByteArray) 0 21 true _ A12.out).mono ?_); rintro e w72 ⟨rfl, hb⟩; have n0_ := Aside0.mk (below_step (by repeat (first | (with_reducible first | exact HB.out | apply below_alloc | apply pw_below_drewN | apply below_drew1) | exact HB.out)) hb); clear HB; have HB := n0_; clear n0_; (try clear hb); (try clear hb2); (try clear hk); (try clear hi)) | (go_at_call 24; (with_reducible refine (wisplaw02_told.calls k (⟨#[45, 51, 50, 55, 54, 56]⟩ : ByteArray) 32768 0 true _ A14.out).mono ?_); rintro e w73 ⟨rfl, hb⟩; have n0_ := Aside0.mk (below_step (by repeat (first | (with_reducible first | exact HB.out | apply below_alloc | apply pw_below_drewN | apply below_drew1) | exact HB.out)) hb); clear HB; have HB := n0_; clear n0_; (try clear hb); (try clear hb2); (try clear hk); (try clear hi)) | (go_at_call 24; (with_reducible refine (wisplaw02_told.calls k (⟨#[45, 48]⟩ : ByteArray) 0 0 false _ A16.out).mono ?_); rintro e w74 ⟨rfl, hb⟩; have n0_ := Aside0.mk (below_step (by repeat (first | (with_reducible first | exact HB.out | apply below_alloc | apply pw_below_drewN | apply below_drew1) | exact HB.out)) hb); clear HB; have HB := n0_; clear n0_; (try clear hb); (try clear hb2); (try clear hk); (try clear hi)))
                    go_meet
                    case rel => exact ⟨_, (true), (by first | rfl | (simp; done) | (simp [*]; done) | (simp [isEmpty_ne]; done)), H', ⟨by first | omega | exact Nat.le_refl _⟩, ⟨by repeat (first | (with_reducible first | exact HB.out | apply below_alloc | apply pw_below_drewN | apply below_drew1) | exact HB.out)⟩⟩
                · replace c15 := Bool.eq_false_iff.mpr c15
                  subst c15
                  have H1 : (wisplaw02_TextNames.j0 k true) = some r := by rw [if_neg (show ¬ (false = true) by decide)] at H; exact H
                  clear H
                  have H := H1
                  clear H1
                  have H' := Aside0.mk H
                  clear H
                  go_wp2_with (first | ((with_reducible refine gate_callee (f := 23) rfl ?_); refine goesL_ (some 8) rfl rfl Try.func23 (by kernel_rfl) rfl #[] rfl (by (try simp only [List.map_toArray, List.map_cons, List.map_nil]); first | done | rfl | (simp only [List.length_drop, List.length_take]; rfl)) ?_; (with_reducible refine (wisplaw02_fixed.calls k  true _ A2.out).mono ?_); rintro e w75 ⟨rfl, hb⟩; refine ⟨_, rfl, ?_⟩; have n0_ := Aside0.mk (below_step (by repeat (first | (with_reducible first | exact HB.out | apply below_alloc | apply pw_below_drewN | apply below_drew1) | exact HB.out)) hb); clear HB; have HB := n0_; clear n0_; (try clear hb); (try clear hb2); (try clear hk); (try clear hi)) | (go_at_call 24; (with_reducible refine (wisplaw02_told.calls k (⟨#[55]⟩ : ByteArray) 7 0 true _ A4.out).mono ?_); rintro e w76 ⟨rfl, hb⟩; have n0_ := Aside0.mk (below_step (by repeat (first | (with_reducible first | exact HB.out | apply below_alloc | apply pw_below_drewN | apply below_drew1) | exact HB.out)) hb); clear HB; have HB := n0_; clear n0_; (try clear hb); (try clear hb2); (try clear hk); (try clear hi)) | (go_at_call 24; (with_reducible refine (wisplaw02_told.calls k (⟨#[45, 49]⟩ : ByteArray) 65535 0 true _ A6.out).mono ?_); rintro e w77 ⟨rfl, hb⟩; have n0_ := Aside0.mk (below_step (by repeat (first | (with_reducible first | exact HB.out | apply below_alloc | apply pw_below_drewN | apply below_drew1) | exact HB.out)) hb); clear HB; have HB := n0_; clear n0_; (try clear hb); (try clear hb2); (try clear hk); (try clear hi)) | (go_at_call 24; (with_reducible refine (wisplaw02_told.calls k (⟨#[48, 48, 54, 53, 53, 51, 53]⟩ : ByteArray) 65535 0 true _ A8.out).mono ?_); rintro e w78 ⟨rfl, hb⟩; have n0_ := Aside0.mk (below_step (by repeat (first | (with_reducible first | exact HB.out | apply below_alloc | apply pw_below_drewN | apply below_drew1) | exact HB.out)) hb); clear HB; have HB := n0_; clear n0_; (try clear hb); (try clear hb2); (try clear hk); (try clear hi)) | (go_at_call 24; (with_reducible refine (wisplaw02_told.calls k (⟨#[54, 53, 53, 51, 54]⟩ : ByteArray) 0 21 true _ A10.out).mono ?_); rintro e w79 ⟨rfl, hb⟩; have n0_ := Aside0.mk (below_step (by repeat (first | (with_reducible first | exact HB.out | apply below_alloc | apply pw_below_drewN | apply below_drew1) | exact HB.out)) hb); clear HB; have HB := n0_; clear n0_; (try clear hb); (try clear hb2); (try clear hk); (try clear hi)) | (go_at_call 24; (with_reducible refine (wisplaw02_told.calls k (⟨#[45, 51, 50, 55, 54, 57]⟩ : ByteArray) 0 21 true _ A12.out).mono ?_); rintro e w80 ⟨rfl, hb⟩; have n0_ := Aside0.mk (below_step (by repeat (first | (with_reducible first | exact HB.out | apply below_alloc | apply pw_below_drewN | apply below_drew1) | exact HB.out)) hb); clear HB; have HB := n0_; clear n0_; (try clear hb); (try clear hb2); (try clear hk); (try clear hi)) | (go_at_call 24; (with_reducible refine (wisplaw02_told.calls k (⟨#[45, 51, 50, 55, 54, 56]⟩ : ByteArray) 32768 0 false _ A14.out).mono ?_); rintro e w81 ⟨rfl, hb⟩; have n0_ := Aside0.mk (below_step (by repeat (first | (with_reducible first | exact HB.out | apply below_alloc | apply pw_below_drewN | apply below_drew1) | exact HB.out)) hb); clear HB; have HB := n0_; clear n0_; (try clear hb); (try clear hb2); (try clear hk); (try clear hi)))
                  go_meet
                  case rel => exact ⟨_, (true), (by first | rfl | (simp; done) | (simp [*]; done) | (simp [isEmpty_ne]; done)), H', ⟨by first | omega | exact Nat.le_refl _⟩, ⟨by repeat (first | (with_reducible first | exact HB.out | apply below_alloc | apply pw_below_drewN | apply below_drew1) | exact HB.out)⟩⟩
              · replace c13 := Bool.eq_false_iff.mpr c13
                subst c13
                have H1 : (wisplaw02_TextNames.j0 k true) = some r := by rw [if_neg (show ¬ (false = true) by decide)] at H; exact H
                clear H
                have H := H1
                clear H1
                have H' := Aside0.mk H
                clear H
                go_wp2_with (first | ((with_reducible refine gate_callee (f := 23) rfl ?_); refine goesL_ (some 8) rfl rfl Try.func23 (by kernel_rfl) rfl #[] rfl (by (try simp only [List.map_toArray, List.map_cons, List.map_nil]); first | done | rfl | (simp only [List.length_drop, List.length_take]; rfl)) ?_; (with_reducible refine (wisplaw02_fixed.calls k  true _ A2.out).mono ?_); rintro e w82 ⟨rfl, hb⟩; refine ⟨_, rfl, ?_⟩; have n0_ := Aside0.mk (below_step (by repeat (first | (with_reducible first | exact HB.out | apply below_alloc | apply pw_below_drewN | apply below_drew1) | exact HB.out)) hb); clear HB; have HB := n0_; clear n0_; (try clear hb); (try clear hb2); (try clear hk); (try clear hi)) | (go_at_call 24; (with_reducible refine (wisplaw02_told.calls k (⟨#[55]⟩ : ByteArray) 7 0 true _ A4.out).mono ?_); rintro e w83 ⟨rfl, hb⟩; have n0_ := Aside0.mk (below_step (by repeat (first | (with_reducible first | exact HB.out | apply below_alloc | apply pw_below_drewN | apply below_drew1) | exact HB.out)) hb); clear HB; have HB := n0_; clear n0_; (try clear hb); (try clear hb2); (try clear hk); (try clear hi)) | (go_at_call 24; (with_reducible refine (wisplaw02_told.calls k (⟨#[45, 49]⟩ : ByteArray) 65535 0 true _ A6.out).mono ?_); rintro e w84 ⟨rfl, hb⟩; have n0_ := Aside0.mk (below_step (by repeat (first | (with_reducible first | exact HB.out | apply below_alloc | apply pw_below_drewN | apply below_drew1) | exact HB.out)) hb); clear HB; have HB := n0_; clear n0_; (try clear hb); (try clear hb2); (try clear hk); (try clear hi)) | (go_at_call 24; (with_reducible refine (wisplaw02_told.calls k (⟨#[48, 48, 54, 53, 53, 51, 53]⟩ : ByteArray) 65535 0 true _ A8.out).mono ?_); rintro e w85 ⟨rfl, hb⟩; have n0_ := Aside0.mk (below_step (by repeat (first | (with_reducible first | exact HB.out | apply below_alloc | apply pw_below_drewN | apply below_drew1) | exact HB.out)) hb); clear HB; have HB := n0_; clear n0_; (try clear hb); (try clear hb2); (try clear hk); (try clear hi)) | (go_at_call 24; (with_reducible refine (wisplaw02_told.calls k (⟨#[54, 53, 53, 51, 54]⟩ : ByteArray) 0 21 true _ A10.out).mono ?_); rintro e w86 ⟨rfl, hb⟩; have n0_ := Aside0.mk (below_step (by repeat (first | (with_reducible first | exact HB.out | apply below_alloc | apply pw_below_drewN | apply below_drew1) | exact HB.out)) hb); clear HB; have HB := n0_; clear n0_; (try clear hb); (try clear hb2); (try clear hk); (try clear hi)) | (go_at_call 24; (with_reducible refine (wisplaw02_told.calls k (⟨#[45, 51, 50, 55, 54, 57]⟩ : ByteArray) 0 21 false _ A12.out).mono ?_); rintro e w87 ⟨rfl, hb⟩; have n0_ := Aside0.mk (below_step (by repeat (first | (with_reducible first | exact HB.out | apply below_alloc | apply pw_below_drewN | apply below_drew1) | exact HB.out)) hb); clear HB; have HB := n0_; clear n0_; (try clear hb); (try clear hb2); (try clear hk); (try clear hi)))
                go_meet
                case rel => exact ⟨_, (true), (by first | rfl | (simp; done) | (simp [*]; done) | (simp [isEmpty_ne]; done)), H', ⟨by first | omega | exact Nat.le_refl _⟩, ⟨by repeat (first | (with_reducible first | exact HB.out | apply below_alloc | apply pw_below_drewN | apply below_drew1) | exact HB.out)⟩⟩
            · replace c11 := Bool.eq_false_iff.mpr c11
              subst c11
              have H1 : (wisplaw02_TextNames.j0 k true) = some r := by rw [if_neg (show ¬ (false = true) by decide)] at H; exact H
              clear H
              have H := H1
              clear H1
              have H' := Aside0.mk H
              clear H
              go_wp2_with (first | ((with_reducible refine gate_callee (f := 23) rfl ?_); refine goesL_ (some 8) rfl rfl Try.func23 (by kernel_rfl) rfl #[] rfl (by (try simp only [List.map_toArray, List.map_cons, List.map_nil]); first | done | rfl | (simp only [List.length_drop, List.length_take]; rfl)) ?_; (with_reducible refine (wisplaw02_fixed.calls k  true _ A2.out).mono ?_); rintro e w88 ⟨rfl, hb⟩; refine ⟨_, rfl, ?_⟩; have n0_ := Aside0.mk (below_step (by repeat (first | (with_reducible first | exact HB.out | apply below_alloc | apply pw_below_drewN | apply below_drew1) | exact HB.out)) hb); clear HB; have HB := n0_; clear n0_; (try clear hb); (try clear hb2); (try clear hk); (try clear hi)) | (go_at_call 24; (with_reducible refine (wisplaw02_told.calls k (⟨#[55]⟩ : ByteArray) 7 0 true _ A4.out).mono ?_); rintro e w89 ⟨rfl, hb⟩; have n0_ := Aside0.mk (below_step (by repeat (first | (with_reducible first | exact HB.out | apply below_alloc | apply pw_below_drewN | apply below_drew1) | exact HB.out)) hb); clear HB; have HB := n0_; clear n0_; (try clear hb); (try clear hb2); (try clear hk); (try clear hi)) | (go_at_call 24; (with_reducible refine (wisplaw02_told.calls k (⟨#[45, 49]⟩ : ByteArray) 65535 0 true _ A6.out).mono ?_); rintro e w90 ⟨rfl, hb⟩; have n0_ := Aside0.mk (below_step (by repeat (first | (with_reducible first | exact HB.out | apply below_alloc | apply pw_below_drewN | apply below_drew1) | exact HB.out)) hb); clear HB; have HB := n0_; clear n0_; (try clear hb); (try clear hb2); (try clear hk); (try clear hi)) | (go_at_call 24; (with_reducible refine (wisplaw02_told.calls k (⟨#[48, 48, 54, 53, 53, 51, 53]⟩ : ByteArray) 65535 0 true _ A8.out).mono ?_); rintro e w91 ⟨rfl, hb⟩; have n0_ := Aside0.mk (below_step (by repeat (first | (with_reducible first | exact HB.out | apply below_alloc | apply pw_below_drewN | apply below_drew1) | exact HB.out)) hb); clear HB; have HB := n0_; clear n0_; (try clear hb); (try clear hb2); (try clear hk); (try clear hi)) | (go_at_call 24; (with_reducible refine (wisplaw02_told.calls k (⟨#[54, 53, 53, 51, 54]⟩ : ByteArray) 0 21 false _ A10.out).mono ?_); rintro e w92 ⟨rfl, hb⟩; have n0_ := Aside0.mk (below_step (by repeat (first | (with_reducible first | exact HB.out | apply below_alloc | apply pw_below_drewN | apply below_drew1) | exact HB.out)) hb); clear HB; have HB := n0_; clear n0_; (try clear hb); (try clear hb2); (try clear hk); (try clear hi)))
              go_meet
              case rel => exact ⟨_, (true), (by first | rfl | (simp; done) | (simp [*]; done) | (simp [isEmpty_ne]; done)), H', ⟨by first | omega | exact Nat.le_refl _⟩, ⟨by repeat (first | (with_reducible first | exact HB.out | apply below_alloc | apply pw_below_drewN | apply below_drew1) | exact HB.out)⟩⟩
          · replace c9 := Bool.eq_false_iff.mpr c9
            subst c9
            have H1 : (wisplaw02_TextNames.j0 k true) = some r := by rw [if_neg (show ¬ (false = true) by decide)] at H; exact H
            clear H
            have H := H1
            clear H1
            have H' := Aside0.mk H
            clear H
            go_wp2_with (first | ((with_reducible refine gate_callee (f := 23) rfl ?_); refine goesL_ (some 8) rfl rfl Try.func23 (by kernel_rfl) rfl #[] rfl (by (try simp only [List.map_toArray, List.map_cons, List.map_nil]); first | done | rfl | (simp only [List.length_drop, List.length_take]; rfl)) ?_; (with_reducible refine (wisplaw02_fixed.calls k  true _ A2.out).mono ?_); rintro e w93 ⟨rfl, hb⟩; refine ⟨_, rfl, ?_⟩; have n0_ := Aside0.mk (below_step (by repeat (first | (with_reducible first | exact HB.out | apply below_alloc | apply pw_below_drewN | apply below_drew1) | exact HB.out)) hb); clear HB; have HB := n0_; clear n0_; (try clear hb); (try clear hb2); (try clear hk); (try clear hi)) | (go_at_call 24; (with_reducible refine (wisplaw02_told.calls k (⟨#[55]⟩ : ByteArray) 7 0 true _ A4.out).mono ?_); rintro e w94 ⟨rfl, hb⟩; have n0_ := Aside0.mk (below_step (by repeat (first | (with_reducible first | exact HB.out | apply below_alloc | apply pw_below_drewN | apply below_drew1) | exact HB.out)) hb); clear HB; have HB := n0_; clear n0_; (try clear hb); (try clear hb2); (try clear hk); (try clear hi)) | (go_at_call 24; (with_reducible refine (wisplaw02_told.calls k (⟨#[45, 49]⟩ : ByteArray) 65535 0 true _ A6.out).mono ?_); rintro e w95 ⟨rfl, hb⟩; have n0_ := Aside0.mk (below_step (by repeat (first | (with_reducible first | exact HB.out | apply below_alloc | apply pw_below_drewN | apply below_drew1) | exact HB.out)) hb); clear HB; have HB := n0_; clear n0_; (try clear hb); (try clear hb2); (try clear hk); (try clear hi)) | (go_at_call 24; (with_reducible refine (wisplaw02_told.calls k (⟨#[48, 48, 54, 53, 53, 51, 53]⟩ : ByteArray) 65535 0 false _ A8.out).mono ?_); rintro e w96 ⟨rfl, hb⟩; have n0_ := Aside0.mk (below_step (by repeat (first | (with_reducible first | exact HB.out | apply below_alloc | apply pw_below_drewN | apply below_drew1) | exact HB.out)) hb); clear HB; have HB := n0_; clear n0_; (try clear hb); (try clear hb2); (try clear hk); (try clear hi)))
            go_meet
            case rel => exact ⟨_, (true), (by first | rfl | (simp; done) | (simp [*]; done) | (simp [isEmpty_ne]; done)), H', ⟨by first | omega | exact Nat.le_refl _⟩, ⟨by repeat (first | (with_reducible first | exact HB.out | apply below_alloc | apply pw_below_drewN | apply below_drew1) | exact HB.out)⟩⟩
        · replace c7 := Bool.eq_false_iff.mpr c7
          subst c7
          have H1 : (wisplaw02_TextNames.j0 k true) = some r := by rw [if_neg (show ¬ (false = true) by decide)] at H; exact H
          clear H
          have H := H1
          clear H1
          have H' := Aside0.mk H
          clear H
          go_wp2_with (first | ((with_reducible refine gate_callee (f := 23) rfl ?_); refine goesL_ (some 8) rfl rfl Try.func23 (by kernel_rfl) rfl #[] rfl (by (try simp only [List.map_toArray, List.map_cons, List.map_nil]); first | done | rfl | (simp only [List.length_drop, List.length_take]; rfl)) ?_; (with_reducible refine (wisplaw02_fixed.calls k  true _ A2.out).mono ?_); rintro e w97 ⟨rfl, hb⟩; refine ⟨_, rfl, ?_⟩; have n0_ := Aside0.mk (below_step (by repeat (first | (with_reducible first | exact HB.out | apply below_alloc | apply pw_below_drewN | apply below_drew1) | exact HB.out)) hb); clear HB; have HB := n0_; clear n0_; (try clear hb); (try clear hb2); (try clear hk); (try clear hi)) | (go_at_call 24; (with_reducible refine (wisplaw02_told.calls k (⟨#[55]⟩ : ByteArray) 7 0 true _ A4.out).mono ?_); rintro e w98 ⟨rfl, hb⟩; have n0_ := Aside0.mk (below_step (by repeat (first | (with_reducible first | exact HB.out | apply below_alloc | apply pw_below_drewN | apply below_drew1) | exact HB.out)) hb); clear HB; have HB := n0_; clear n0_; (try clear hb); (try clear hb2); (try clear hk); (try clear hi)) | (go_at_call 24; (with_reducible refine (wisplaw02_told.calls k (⟨#[45, 49]⟩ : ByteArray) 65535 0 false _ A6.out).mono ?_); rintro e w99 ⟨rfl, hb⟩; have n0_ := Aside0.mk (below_step (by repeat (first | (with_reducible first | exact HB.out | apply below_alloc | apply pw_below_drewN | apply below_drew1) | exact HB.out)) hb); clear HB; have HB := n0_; clear n0_; (try clear hb); (try clear hb2); (try clear hk); (try clear hi)))
          go_meet
          case rel => exact ⟨_, (true), (by first | rfl | (simp; done) | (simp [*]; done) | (simp [isEmpty_ne]; done)), H', ⟨by first | omega | exact Nat.le_refl _⟩, ⟨by repeat (first | (with_reducible first | exact HB.out | apply below_alloc | apply pw_below_drewN | apply below_drew1) | exact HB.out)⟩⟩
      · replace c5 := Bool.eq_false_iff.mpr c5
        subst c5
        have H1 : (wisplaw02_TextNames.j0 k true) = some r := by rw [if_neg (show ¬ (false = true) by decide)] at H; exact H
        clear H
        have H := H1
        clear H1
        have H' := Aside0.mk H
        clear H
        go_wp2_with (first | ((with_reducible refine gate_callee (f := 23) rfl ?_); refine goesL_ (some 8) rfl rfl Try.func23 (by kernel_rfl) rfl #[] rfl (by (try simp only [List.map_toArray, List.map_cons, List.map_nil]); first | done | rfl | (simp only [List.length_drop, List.length_take]; rfl)) ?_; (with_reducible refine (wisplaw02_fixed.calls k  true _ A2.out).mono ?_); rintro e w100 ⟨rfl, hb⟩; refine ⟨_, rfl, ?_⟩; have n0_ := Aside0.mk (below_step (by repeat (first | (with_reducible first | exact HB.out | apply below_alloc | apply pw_below_drewN | apply below_drew1) | exact HB.out)) hb); clear HB; have HB := n0_; clear n0_; (try clear hb); (try clear hb2); (try clear hk); (try clear hi)) | (go_at_call 24; (with_reducible refine (wisplaw02_told.calls k (⟨#[55]⟩ : ByteArray) 7 0 false _ A4.out).mono ?_); rintro e w101 ⟨rfl, hb⟩; have n0_ := Aside0.mk (below_step (by repeat (first | (with_reducible first | exact HB.out | apply below_alloc | apply pw_below_drewN | apply below_drew1) | exact HB.out)) hb); clear HB; have HB := n0_; clear n0_; (try clear hb); (try clear hb2); (try clear hk); (try clear hi)))
        go_meet
        case rel => exact ⟨_, (true), (by first | rfl | (simp; done) | (simp [*]; done) | (simp [isEmpty_ne]; done)), H', ⟨by first | omega | exact Nat.le_refl _⟩, ⟨by repeat (first | (with_reducible first | exact HB.out | apply below_alloc | apply pw_below_drewN | apply below_drew1) | exact HB.out)⟩⟩
    · replace c3 := Bool.eq_false_iff.mpr c3
      subst c3
      have H1 : (wisplaw02_TextNames.j0 k true) = some r := by rw [if_neg (show ¬ (false = true) by decide)] at H; exact H
      clear H
      have H := H1
      clear H1
      have H' := Aside0.mk H
      clear H
      go_wp2_with (first | ((with_reducible refine gate_callee (f := 23) rfl ?_); refine goesL_ (some 8) rfl rfl Try.func23 (by kernel_rfl) rfl #[] rfl (by (try simp only [List.map_toArray, List.map_cons, List.map_nil]); first | done | rfl | (simp only [List.length_drop, List.length_take]; rfl)) ?_; (with_reducible refine (wisplaw02_fixed.calls k  false _ A2.out).mono ?_); rintro e w102 ⟨rfl, hb⟩; refine ⟨_, rfl, ?_⟩; have n0_ := Aside0.mk (below_step (by repeat (first | (with_reducible first | exact HB.out | apply below_alloc | apply pw_below_drewN | apply below_drew1) | exact HB.out)) hb); clear HB; have HB := n0_; clear n0_; (try clear hb); (try clear hb2); (try clear hk); (try clear hi)))
      go_meet
      case rel => exact ⟨_, (true), (by first | rfl | (simp; done) | (simp [*]; done) | (simp [isEmpty_ne]; done)), H', ⟨by first | omega | exact Nat.le_refl _⟩, ⟨by repeat (first | (with_reducible first | exact HB.out | apply below_alloc | apply pw_below_drewN | apply below_drew1) | exact HB.out)⟩⟩
  case rest =>
    clear HC1
    try clear c1
    try clear c2
    try clear p2
    try clear c3
    try clear c5
    try clear c7
    try clear c9
    try clear c11
    try clear c13
    try clear c15
    try clear c17
    try clear c19
    try clear c21
    try clear c23
    obtain ⟨kq, x53_0, rfl, HA, HJ0, HB⟩ := hcut
    cases kq with
    | zero => exact absurd HA.out (by simp [wisplaw02_TextNames.j0])
    | succ kj0 =>
      have H := HA.out
      clear HA
      simp only [wisplaw02_TextNames.j0] at H
      by_cases c103 : x53_0 = true
      · subst c103
        have H1 : (some false) = some r := by rw [if_pos rfl] at H; exact H
        clear H
        have H := H1
        clear H1
        obtain rfl := Option.some.inj H
        go_wp2
        go_ret
        exact ⟨by first | rfl | (simp [errW_none, errW_some] <;> rfl) | (simp [*, errW_none, errW_some] <;> rfl), by repeat (first | (with_reducible first | exact HB.out | apply below_alloc | apply pw_below_drewN | apply below_drew1) | exact HB.out)⟩
      · replace c103 := Bool.eq_false_iff.mpr c103
        subst c103
        have H1 : (wisplaw02_TextNames.l0 kj0 (([(⟨#[]⟩ : ByteArray), (⟨#[45]⟩ : ByteArray), (⟨#[36]⟩ : ByteArray), (⟨#[37]⟩ : ByteArray), (⟨#[36, 70, 70]⟩ : ByteArray), (⟨#[37, 50]⟩ : ByteArray), (⟨#[49, 97]⟩ : ByteArray), (⟨#[45, 45, 49]⟩ : ByteArray), (⟨#[43, 49]⟩ : ByteArray), (⟨#[39, 39]⟩ : ByteArray), (⟨#[39, 97, 98, 39]⟩ : ByteArray), (⟨#[39, 32, 39]⟩ : ByteArray)] : List ByteArray)) 0) = some r := by rw [if_neg (show ¬ (false = true) by decide)] at H; exact H
        clear H
        have H := H1
        clear H1
        obtain ⟨y166, hy166⟩ : ∃ y_ : List ByteArray, y_ = (([(⟨#[]⟩ : ByteArray), (⟨#[45]⟩ : ByteArray), (⟨#[36]⟩ : ByteArray), (⟨#[37]⟩ : ByteArray), (⟨#[36, 70, 70]⟩ : ByteArray), (⟨#[37, 50]⟩ : ByteArray), (⟨#[49, 97]⟩ : ByteArray), (⟨#[45, 45, 49]⟩ : ByteArray), (⟨#[43, 49]⟩ : ByteArray), (⟨#[39, 39]⟩ : ByteArray), (⟨#[39, 97, 98, 39]⟩ : ByteArray), (⟨#[39, 32, 39]⟩ : ByteArray)] : List ByteArray)) := ⟨_, rfl⟩
        replace H : (wisplaw02_TextNames.l0 kj0 y166 0) = some r := by first | (rw [hy166]; with_reducible exact H) | (have H2_ := (Option.bind_some _ _).symm.trans H; rw [hy166]; with_reducible exact H2_) | (have H2_ := (Option.bind_some _ _).symm.trans H; with_reducible exact H2_) | with_reducible exact H | (rw [hy166]; exact H) | exact H
        have Ny166 := Aside0.mk hy166
        clear hy166
        have H' := Aside0.mk H
        clear H
        go_wp2_with (first | ((with_reducible refine gate_dst (N := 54) rfl ?_); (try (refine gate_guard (by rfl) ?_; dsimp only)); refine Kd.R_lit Kd.string _ 9 ?hg (N := 54) ?hd (xs := ([(⟨#[]⟩ : ByteArray), (⟨#[45]⟩ : ByteArray), (⟨#[36]⟩ : ByteArray), (⟨#[37]⟩ : ByteArray), (⟨#[36, 70, 70]⟩ : ByteArray), (⟨#[37, 50]⟩ : ByteArray), (⟨#[49, 97]⟩ : ByteArray), (⟨#[45, 45, 49]⟩ : ByteArray), (⟨#[43, 49]⟩ : ByteArray), (⟨#[39, 39]⟩ : ByteArray), (⟨#[39, 97, 98, 39]⟩ : ByteArray), (⟨#[39, 32, 39]⟩ : ByteArray)] : List ByteArray)) (inner := [.string (⟨#[]⟩ : ByteArray), .string (⟨#[45]⟩ : ByteArray), .string (⟨#[36]⟩ : ByteArray), .string (⟨#[37]⟩ : ByteArray), .string (⟨#[36, 70, 70]⟩ : ByteArray), .string (⟨#[37, 50]⟩ : ByteArray), .string (⟨#[49, 97]⟩ : ByteArray), .string (⟨#[45, 45, 49]⟩ : ByteArray), .string (⟨#[43, 49]⟩ : ByteArray), .string (⟨#[39, 39]⟩ : ByteArray), .string (⟨#[39, 97, 98, 39]⟩ : ByteArray), .string (⟨#[39, 32, 39]⟩ : ByteArray)]) (ok := fun _ => True) (okp := fun _ => True) ?hr ?hp (fun _ hk => hk) trivial (Below.refl _ _) (Nat.le_refl _) (by simp) ?_; (case hd => rfl); (case hg => rfl); (case hr => first | (go_simp; done) | (go_simp; rfl)); (case hp => exact (Reps.one (show Kd.M Kd.string _ _ _ (⟨#[]⟩ : ByteArray) [.string (⟨#[]⟩ : ByteArray)] from rfl) (Reps.one (show Kd.M Kd.string _ _ _ (⟨#[45]⟩ : ByteArray) [.string (⟨#[45]⟩ : ByteArray)] from rfl) (Reps.one (show Kd.M Kd.string _ _ _ (⟨#[36]⟩ : ByteArray) [.string (⟨#[36]⟩ : ByteArray)] from rfl) (Reps.one (show Kd.M Kd.string _ _ _ (⟨#[37]⟩ : ByteArray) [.string (⟨#[37]⟩ : ByteArray)] from rfl) (Reps.one (show Kd.M Kd.string _ _ _ (⟨#[36, 70, 70]⟩ : ByteArray) [.string (⟨#[36, 70, 70]⟩ : ByteArray)] from rfl) (Reps.one (show Kd.M Kd.string _ _ _ (⟨#[37, 50]⟩ : ByteArray) [.string (⟨#[37, 50]⟩ : ByteArray)] from rfl) (Reps.one (show Kd.M Kd.string _ _ _ (⟨#[49, 97]⟩ : ByteArray) [.string (⟨#[49, 97]⟩ : ByteArray)] from rfl) (Reps.one (show Kd.M Kd.string _ _ _ (⟨#[45, 45, 49]⟩ : ByteArray) [.string (⟨#[45, 45, 49]⟩ : ByteArray)] from rfl) (Reps.one (show Kd.M Kd.string _ _ _ (⟨#[43, 49]⟩ : ByteArray) [.string (⟨#[43, 49]⟩ : ByteArray)] from rfl) (Reps.one (show Kd.M Kd.string _ _ _ (⟨#[39, 39]⟩ : ByteArray) [.string (⟨#[39, 39]⟩ : ByteArray)] from rfl) (Reps.one (show Kd.M Kd.string _ _ _ (⟨#[39, 97, 98, 39]⟩ : ByteArray) [.string (⟨#[39, 97, 98, 39]⟩ : ByteArray)] from rfl) (Reps.one (show Kd.M Kd.string _ _ _ (⟨#[39, 32, 39]⟩ : ByteArray) [.string (⟨#[39, 32, 39]⟩ : ByteArray)] from rfl) (Reps.none _ _)))))))))))))); intro v167 w104 ho105 hb hg_ hnew_; clear hg_ hnew_; (first | rw [← Ny166.out] at ho105 | (simp only [Int.reduceToNat] at ho105; rw [← Ny166.out] at ho105)); have n0_ := Aside0.mk (Kd.R_lower ho105 (below_size (by repeat (first | (with_reducible first | exact HB.out | apply below_alloc | apply pw_below_drewN | apply below_drew1) | exact HB.out)))); have n1_ := Aside0.mk (below_step (by repeat (first | (with_reducible first | exact HB.out | apply below_alloc | apply pw_below_drewN | apply below_drew1) | exact HB.out)) hb); clear HB; have HO168 := n0_; have HB := n1_; clear n0_ n1_; clear hb ho105))
        go_loopg [2] kj0 (fun kq v2 w' => ∃ (x2_2 : Int), v2 = .int .i64 x2_2 ∧ Aside0 (wisplaw02_TextNames.l0 kq y166 x2_2 = some r) ∧ Aside0 (kq ≤ kj0) ∧ Aside0 (Kd.R Kd.string 9 w' w.heap.size (fun _ => True) v167 y166) ∧ Aside0 (Below w.heap.size w w'))
        case atStart => exact ⟨(0), (by first | rfl | (simp; done) | (simp [*]; done) | (simp [isEmpty_ne]; done)), H', ⟨Nat.le_refl _⟩, ⟨by (with_reducible repeat (first | apply Kd.R_alloc | apply Kd.R_drewN | apply Kd.R_drew)); exact HO168.out⟩, ⟨by repeat (first | (with_reducible first | exact HB.out | apply below_alloc | apply pw_below_drewN | apply below_drew1) | exact HB.out)⟩⟩
        case round =>
          clear H'
          try clear c1
          try clear c2
          try clear p2
          try clear c3
          try clear c5
          try clear c7
          try clear c9
          try clear c10
          try clear c11
          try clear c13
          try clear c15
          try clear c17
          try clear c19
          try clear c21
          try clear c23
          try clear c103
          try clear p2
          obtain ⟨x2_2, rfl, HA, HK2, HO_1, HB⟩ := hrel
          cases gk with
          | zero => exact absurd HA.out (by simp [wisplaw02_TextNames.l0])
          | succ k2 =>
            have H := HA.out
            clear HA
            simp only [wisplaw02_TextNames.l0] at H
            by_cases c106 : x2_2 < (y166.length : Int)
            · rw [if_pos c106] at H
              have c106b0 : decide (x2_2 < (y166.length : Int)) = true := decide_eq_true c106
              clear c106
              by_cases c107 : 0 ≤ x2_2
              · rw [if_pos c107] at H
                have c107b0 : decide (0 ≤ x2_2) = true := decide_eq_true c107
                clear c107
                replace H := Option.bind_eq_some_iff.mp H
                obtain ⟨t170, A1080, H⟩ := H
                replace H : (if t170 = true then (wisplaw02_TextNames.l0 k2 y166 (wrap64 (x2_2 + 1))) else (some false)) = some r := H
                have A108 := Aside0.mk A1080
                clear A1080
                by_cases c109 : t170 = true
                · subst c109
                  have H1 : (wisplaw02_TextNames.l0 k2 y166 (wrap64 (x2_2 + 1))) = some r := by rw [if_pos rfl] at H; exact H
                  clear H
                  have H := H1
                  clear H1
                  have H' := Aside0.mk H
                  clear H
                  obtain ⟨Ao110, co110, eo110⟩ := Kd.R_slice HO_1.out
                  subst eo110
                  have p169 : 0 ≤ (x2_2 : Int) := of_decide_eq_true (by first | (with_reducible assumption) | assumption)
                  have q169 : x2_2 < (y166.length : Int) := of_decide_eq_true (by first | (with_reducible assumption) | assumption)
                  obtain ⟨ad169, e169, hx169_0⟩ := Kd.at_string (Kd.R_reads' HO_1.out).2.2 x2_2 p169 q169
                  cases e169
                  replace p169 := eq_true p169
                  replace q169 := eq_true q169
                  go_wp2_with (first | ((with_reducible refine gate_callee (f := 24) rfl ?_); refine goesL_ (some 65) rfl rfl Try.func24 (by kernel_rfl) rfl #[.string (rdOf ByteArray.empty y166 x2_2), .int .u16 0, .int .i64 20] rfl (by (try simp only [List.map_toArray, List.map_cons, List.map_nil]); first | done | rfl | (simp only [List.length_drop, List.length_take]; rfl)) ?_; (with_reducible refine (wisplaw02_told.calls k2 (rdOf ByteArray.empty y166 x2_2) 0 20 true _ A108.out).mono ?_); rintro e w111 ⟨rfl, hb⟩; refine ⟨_, rfl, ?_⟩; have n0_ := Aside0.mk (Kd.R_below (by (with_reducible repeat (first | apply Kd.R_alloc | apply Kd.R_drewN | apply Kd.R_drew)); exact HO_1.out) hb); have n1_ := Aside0.mk (below_step (by repeat (first | (with_reducible first | exact HB.out | apply below_alloc | apply pw_below_drewN | apply below_drew1) | exact HB.out)) hb); clear HO_1; clear HB; have HO_1 := n0_; have HB := n1_; clear n0_ n1_; (try clear hb); (try clear hb2); (try clear hk); (try clear hi)))
                  go_roundg k2
                  case measure => have := HJ0.out; have := HK2.out; omega
                  case rel => exact ⟨(wrap64 (x2_2 + 1)), (by first | rfl | (simp; done) | (simp [*]; done) | (simp [isEmpty_ne]; done)), H', ⟨by have := HJ0.out; have := HK2.out; omega⟩, ⟨by (with_reducible repeat (first | apply Kd.R_alloc | apply Kd.R_drewN | apply Kd.R_drew)); exact HO_1.out⟩, ⟨by repeat (first | (with_reducible first | exact HB.out | apply below_alloc | apply pw_below_drewN | apply below_drew1) | exact HB.out)⟩⟩
                · replace c109 := Bool.eq_false_iff.mpr c109
                  subst c109
                  have H1 : (some false) = some r := by rw [if_neg (show ¬ (false = true) by decide)] at H; exact H
                  clear H
                  have H := H1
                  clear H1
                  obtain rfl := Option.some.inj H
                  obtain ⟨Ao112, co112, eo112⟩ := Kd.R_slice HO_1.out
                  subst eo112
                  have p169 : 0 ≤ (x2_2 : Int) := of_decide_eq_true (by first | (with_reducible assumption) | assumption)
                  have q169 : x2_2 < (y166.length : Int) := of_decide_eq_true (by first | (with_reducible assumption) | assumption)
                  obtain ⟨ad169, e169, hx169_0⟩ := Kd.at_string (Kd.R_reads' HO_1.out).2.2 x2_2 p169 q169
                  cases e169
                  replace p169 := eq_true p169
                  replace q169 := eq_true q169
                  go_wp2_with (first | ((with_reducible refine gate_callee (f := 24) rfl ?_); refine goesL_ (some 65) rfl rfl Try.func24 (by kernel_rfl) rfl #[.string (rdOf ByteArray.empty y166 x2_2), .int .u16 0, .int .i64 20] rfl (by (try simp only [List.map_toArray, List.map_cons, List.map_nil]); first | done | rfl | (simp only [List.length_drop, List.length_take]; rfl)) ?_; (with_reducible refine (wisplaw02_told.calls k2 (rdOf ByteArray.empty y166 x2_2) 0 20 false _ A108.out).mono ?_); rintro e w113 ⟨rfl, hb⟩; refine ⟨_, rfl, ?_⟩; have n0_ := Aside0.mk (Kd.R_below (by (with_reducible repeat (first | apply Kd.R_alloc | apply Kd.R_drewN | apply Kd.R_drew)); exact HO_1.out) hb); have n1_ := Aside0.mk (below_step (by repeat (first | (with_reducible first | exact HB.out | apply below_alloc | apply pw_below_drewN | apply below_drew1) | exact HB.out)) hb); clear HO_1; clear HB; have HO_1 := n0_; have HB := n1_; clear n0_ n1_; (try clear hb); (try clear hb2); (try clear hk); (try clear hi)))
                  go_ret
                  exact ⟨by first | rfl | (simp [errW_none, errW_some] <;> rfl) | (simp [*, errW_none, errW_some] <;> rfl), by repeat (first | (with_reducible first | exact HB.out | apply below_alloc | apply pw_below_drewN | apply below_drew1) | exact HB.out)⟩
              · rw [if_neg c107] at H
                exact absurd H (by simp)
            · rw [if_neg c106] at H
              have c106b0 : decide (x2_2 < (y166.length : Int)) = false := decide_eq_false c106
              clear c106
              obtain ⟨y171, hy171⟩ : ∃ y_ : List ByteArray, y_ = (([(⟨#[120]⟩ : ByteArray), (⟨#[45]⟩ : ByteArray), (⟨#[36]⟩ : ByteArray), (⟨#[36, 103]⟩ : ByteArray), (⟨#[39]⟩ : ByteArray), (⟨#[97, 39, 98]⟩ : ByteArray), (⟨#[92, 120]⟩ : ByteArray)] : List ByteArray)) := ⟨_, rfl⟩
              replace H : (wisplaw02_TextNames.l1 k2 y171 0) = some r := by first | (rw [hy171]; with_reducible exact H) | (have H2_ := (Option.bind_some _ _).symm.trans H; rw [hy171]; with_reducible exact H2_) | (have H2_ := (Option.bind_some _ _).symm.trans H; with_reducible exact H2_) | with_reducible exact H | (rw [hy171]; exact H) | exact H
              have Ny171 := Aside0.mk hy171
              clear hy171
              have H' := Aside0.mk H
              clear H
              obtain ⟨Ao114, co114, eo114⟩ := Kd.R_slice HO_1.out
              subst eo114
              go_wp2_with (first | ((with_reducible refine gate_dst (N := 67) rfl ?_); (try (refine gate_guard (by rfl) ?_; dsimp only)); refine Kd.R_lit Kd.string _ 9 ?hg (N := 67) ?hd (xs := ([(⟨#[120]⟩ : ByteArray), (⟨#[45]⟩ : ByteArray), (⟨#[36]⟩ : ByteArray), (⟨#[36, 103]⟩ : ByteArray), (⟨#[39]⟩ : ByteArray), (⟨#[97, 39, 98]⟩ : ByteArray), (⟨#[92, 120]⟩ : ByteArray)] : List ByteArray)) (inner := [.string (⟨#[120]⟩ : ByteArray), .string (⟨#[45]⟩ : ByteArray), .string (⟨#[36]⟩ : ByteArray), .string (⟨#[36, 103]⟩ : ByteArray), .string (⟨#[39]⟩ : ByteArray), .string (⟨#[97, 39, 98]⟩ : ByteArray), .string (⟨#[92, 120]⟩ : ByteArray)]) (ok := fun _ => True) (okp := fun _ => True) ?hr ?hp (fun _ hk => hk) trivial (Below.refl _ _) (Nat.le_refl _) (by simp) ?_; (case hd => rfl); (case hg => rfl); (case hr => first | (go_simp; done) | (go_simp; rfl)); (case hp => exact (Reps.one (show Kd.M Kd.string _ _ _ (⟨#[120]⟩ : ByteArray) [.string (⟨#[120]⟩ : ByteArray)] from rfl) (Reps.one (show Kd.M Kd.string _ _ _ (⟨#[45]⟩ : ByteArray) [.string (⟨#[45]⟩ : ByteArray)] from rfl) (Reps.one (show Kd.M Kd.string _ _ _ (⟨#[36]⟩ : ByteArray) [.string (⟨#[36]⟩ : ByteArray)] from rfl) (Reps.one (show Kd.M Kd.string _ _ _ (⟨#[36, 103]⟩ : ByteArray) [.string (⟨#[36, 103]⟩ : ByteArray)] from rfl) (Reps.one (show Kd.M Kd.string _ _ _ (⟨#[39]⟩ : ByteArray) [.string (⟨#[39]⟩ : ByteArray)] from rfl) (Reps.one (show Kd.M Kd.string _ _ _ (⟨#[97, 39, 98]⟩ : ByteArray) [.string (⟨#[97, 39, 98]⟩ : ByteArray)] from rfl) (Reps.one (show Kd.M Kd.string _ _ _ (⟨#[92, 120]⟩ : ByteArray) [.string (⟨#[92, 120]⟩ : ByteArray)] from rfl) (Reps.none _ _))))))))); intro v172 w115 ho116 hb hg_ hnew_; clear hg_ hnew_; (first | rw [← Ny171.out] at ho116 | (simp only [Int.reduceToNat] at ho116; rw [← Ny171.out] at ho116)); have n0_ := Aside0.mk (Kd.R_elder' (by (with_reducible repeat (first | apply Kd.R_alloc | apply Kd.R_drewN | apply Kd.R_drew)); exact HO_1.out) (Kd.R_base ho116) hb); have n1_ := Aside0.mk (Kd.R_lower (Kd.R_new' ho116 (Kd.R_lt (by (with_reducible repeat (first | apply Kd.R_alloc | apply Kd.R_drewN | apply Kd.R_drew)); exact HO_1.out))) (below_size (by repeat (first | (with_reducible first | exact HB.out | apply below_alloc | apply pw_below_drewN | apply below_drew1) | exact HB.out)))); have n2_ := Aside0.mk (below_step (by repeat (first | (with_reducible first | exact HB.out | apply below_alloc | apply pw_below_drewN | apply below_drew1) | exact HB.out)) hb); clear HO_1; clear HB; have HO_1 := n0_; have HO173 := n1_; have HB := n2_; clear n0_ n1_ n2_; clear hb ho116))
              go_loopg [4] k2 (fun kq v4 w' => ∃ (x4_3 : Int), v4 = .int .i64 x4_3 ∧ Aside0 (wisplaw02_TextNames.l1 kq y171 x4_3 = some r) ∧ Aside0 (kq ≤ k2) ∧ Aside0 (Kd.R Kd.string 9 w' w.heap.size (fun _ => True) v172 y171) ∧ Aside0 (Below w.heap.size w w'))
              case atStart => exact ⟨(0), (by first | rfl | (simp; done) | (simp [*]; done) | (simp [isEmpty_ne]; done)), H', ⟨Nat.le_refl _⟩, ⟨by (with_reducible repeat (first | apply Kd.R_alloc | apply Kd.R_drewN | apply Kd.R_drew)); exact Kd.R_mono HO173.out (fun _ hk => trivial)⟩, ⟨by repeat (first | (with_reducible first | exact HB.out | apply below_alloc | apply pw_below_drewN | apply below_drew1) | exact HB.out)⟩⟩
              case round =>
                clear H'
                try clear c1
                try clear p1
                try clear q1
                try clear hx1
                try clear c2
                try clear p2
                try clear c3
                try clear c5
                try clear p6
                try clear c7
                try clear c9
                try clear c10
                try clear c11
                try clear c13
                try clear c15
                try clear p16
                try clear q16
                try clear hx16
                try clear c17
                try clear c19
                try clear c21
                try clear c23
                try clear c24
                try clear p64
                try clear c103
                try clear c106
                try clear c106b0
                try clear c107
                try clear c107b0
                try clear c109
                try clear hx169_0
                try clear p169
                try clear p2
                try clear q169
                obtain ⟨x4_3, rfl, HA, HK3, HO_3, HB⟩ := hrel
                cases gk with
                | zero => exact absurd HA.out (by simp [wisplaw02_TextNames.l1])
                | succ k3 =>
                  have H := HA.out
                  clear HA
                  simp only [wisplaw02_TextNames.l1] at H
                  by_cases c117 : x4_3 < (y171.length : Int)
                  · rw [if_pos c117] at H
                    have c117b0 : decide (x4_3 < (y171.length : Int)) = true := decide_eq_true c117
                    clear c117
                    by_cases c118 : 0 ≤ x4_3
                    · rw [if_pos c118] at H
                      have c118b0 : decide (0 ≤ x4_3) = true := decide_eq_true c118
                      clear c118
                      replace H := Option.bind_eq_some_iff.mp H
                      obtain ⟨t175, A1190, H⟩ := H
                      replace H : (if t175 = true then (wisplaw02_TextNames.l1 k3 y171 (wrap64 (x4_3 + 1))) else (some false)) = some r := H
                      have A119 := Aside0.mk A1190
                      clear A1190
                      by_cases c120 : t175 = true
                      · subst c120
                        have H1 : (wisplaw02_TextNames.l1 k3 y171 (wrap64 (x4_3 + 1))) = some r := by rw [if_pos rfl] at H; exact H
                        clear H
                        have H := H1
                        clear H1
                        have H' := Aside0.mk H
                        clear H
                        obtain ⟨Ao121, co121, eo121⟩ := Kd.R_slice HO_3.out
                        subst eo121
                        have p174 : 0 ≤ (x4_3 : Int) := of_decide_eq_true (by first | (with_reducible assumption) | assumption)
                        have q174 : x4_3 < (y171.length : Int) := of_decide_eq_true (by first | (with_reducible assumption) | assumption)
                        obtain ⟨ad174, e174, hx174_0⟩ := Kd.at_string (Kd.R_reads' HO_3.out).2.2 x4_3 p174 q174
                        cases e174
                        replace p174 := eq_true p174
                        replace q174 := eq_true q174
                        go_wp2_with (first | ((with_reducible refine gate_callee (f := 25) rfl ?_); refine goesL_ (some 78) rfl rfl Try.func25 (by kernel_rfl) rfl #[.string (rdOf ByteArray.empty y171 x4_3)] rfl (by (try simp only [List.map_toArray, List.map_cons, List.map_nil]); first | done | rfl | (simp only [List.length_drop, List.length_take]; rfl)) ?_; (with_reducible refine (text_Name.calls k3 (rdOf ByteArray.empty y171 x4_3) true _ A119.out).mono ?_); rintro e w122 ⟨rfl, hb⟩; refine ⟨_, rfl, ?_⟩; have n0_ := Aside0.mk (Kd.R_below (by (with_reducible repeat (first | apply Kd.R_alloc | apply Kd.R_drewN | apply Kd.R_drew)); exact HO_3.out) hb); have n1_ := Aside0.mk (below_step (by repeat (first | (with_reducible first | exact HB.out | apply below_alloc | apply pw_below_drewN | apply below_drew1) | exact HB.out)) hb); clear HO_3; clear HB; have HO_3 := n0_; have HB := n1_; clear n0_ n1_; (try clear hb); (try clear hb2); (try clear hk); (try clear hi)))
                        go_roundg k3
                        case measure => have := HJ0.out; have := HK2.out; have := HK3.out; omega
                        case rel => exact ⟨(wrap64 (x4_3 + 1)), (by first | rfl | (simp; done) | (simp [*]; done) | (simp [isEmpty_ne]; done)), H', ⟨by have := HJ0.out; have := HK2.out; have := HK3.out; omega⟩, ⟨by (with_reducible repeat (first | apply Kd.R_alloc | apply Kd.R_drewN | apply Kd.R_drew)); exact HO_3.out⟩, ⟨by repeat (first | (with_reducible first | exact HB.out | apply below_alloc | apply pw_below_drewN | apply below_drew1) | exact HB.out)⟩⟩
                      · replace c120 := Bool.eq_false_iff.mpr c120
                        subst c120
                        have H1 : (some false) = some r := by rw [if_neg (show ¬ (false = true) by decide)] at H; exact H
                        clear H
                        have H := H1
                        clear H1
                        obtain rfl := Option.some.inj H
                        obtain ⟨Ao123, co123, eo123⟩ := Kd.R_slice HO_3.out
                        subst eo123
                        have p174 : 0 ≤ (x4_3 : Int) := of_decide_eq_true (by first | (with_reducible assumption) | assumption)
                        have q174 : x4_3 < (y171.length : Int) := of_decide_eq_true (by first | (with_reducible assumption) | assumption)
                        obtain ⟨ad174, e174, hx174_0⟩ := Kd.at_string (Kd.R_reads' HO_3.out).2.2 x4_3 p174 q174
                        cases e174
                        replace p174 := eq_true p174
                        replace q174 := eq_true q174
                        go_wp2_with (first | ((with_reducible refine gate_callee (f := 25) rfl ?_); refine goesL_ (some 78) rfl rfl Try.func25 (by kernel_rfl) rfl #[.string (rdOf ByteArray.empty y171 x4_3)] rfl (by (try simp only [List.map_toArray, List.map_cons, List.map_nil]); first | done | rfl | (simp only [List.length_drop, List.length_take]; rfl)) ?_; (with_reducible refine (text_Name.calls k3 (rdOf ByteArray.empty y171 x4_3) false _ A119.out).mono ?_); rintro e w124 ⟨rfl, hb⟩; refine ⟨_, rfl, ?_⟩; have n0_ := Aside0.mk (Kd.R_below (by (with_reducible repeat (first | apply Kd.R_alloc | apply Kd.R_drewN | apply Kd.R_drew)); exact HO_3.out) hb); have n1_ := Aside0.mk (below_step (by repeat (first | (with_reducible first | exact HB.out | apply below_alloc | apply pw_below_drewN | apply below_drew1) | exact HB.out)) hb); clear HO_3; clear HB; have HO_3 := n0_; have HB := n1_; clear n0_ n1_; (try clear hb); (try clear hb2); (try clear hk); (try clear hi)))
                        go_ret
                        exact ⟨by first | rfl | (simp [errW_none, errW_some] <;> rfl) | (simp [*, errW_none, errW_some] <;> rfl), by repeat (first | (with_reducible first | exact HB.out | apply below_alloc | apply pw_below_drewN | apply below_drew1) | exact HB.out)⟩
                    · rw [if_neg c118] at H
                      exact absurd H (by simp)
                  · rw [if_neg c117] at H
                    have c117b0 : decide (x4_3 < (y171.length : Int)) = false := decide_eq_false c117
                    clear c117
                    obtain ⟨y176, hy176⟩ : ∃ y_ : List ByteArray, y_ = (([(⟨#[]⟩ : ByteArray), (⟨#[45, 49]⟩ : ByteArray), (⟨#[55, 48, 48, 48, 48]⟩ : ByteArray), (⟨#[40]⟩ : ByteArray), (⟨#[92]⟩ : ByteArray), (⟨#[97, 32, 98]⟩ : ByteArray), (⟨#[97, 98, 99, 100, 101, 102, 103, 104, 105, 106, 107, 108, 109, 110, 111, 112, 113, 114, 115, 116, 117, 118, 119, 120, 121, 122, 97, 98, 99, 100, 101, 102]⟩ : ByteArray), (⟨#[195, 169]⟩ : ByteArray)] : List ByteArray)) := ⟨_, rfl⟩
                    replace H : (wisplaw02_TextNames.l2 k3 y176 0) = some r := by first | (rw [hy176]; with_reducible exact H) | (have H2_ := (Option.bind_some _ _).symm.trans H; rw [hy176]; with_reducible exact H2_) | (have H2_ := (Option.bind_some _ _).symm.trans H; with_reducible exact H2_) | with_reducible exact H | (rw [hy176]; exact H) | exact H
                    have Ny176 := Aside0.mk hy176
                    clear hy176
                    have H' := Aside0.mk H
                    clear H
                    obtain ⟨Ao125, co125, eo125⟩ := Kd.R_slice HO_3.out
                    subst eo125
                    go_wp2_with (first | ((with_reducible refine gate_dst (N := 80) rfl ?_); (try (refine gate_guard (by rfl) ?_; dsimp only)); refine Kd.R_lit Kd.string _ 9 ?hg (N := 80) ?hd (xs := ([(⟨#[]⟩ : ByteArray), (⟨#[45, 49]⟩ : ByteArray), (⟨#[55, 48, 48, 48, 48]⟩ : ByteArray), (⟨#[40]⟩ : ByteArray), (⟨#[92]⟩ : ByteArray), (⟨#[97, 32, 98]⟩ : ByteArray), (⟨#[97, 98, 99, 100, 101, 102, 103, 104, 105, 106, 107, 108, 109, 110, 111, 112, 113, 114, 115, 116, 117, 118, 119, 120, 121, 122, 97, 98, 99, 100, 101, 102]⟩ : ByteArray), (⟨#[195, 169]⟩ : ByteArray)] : List ByteArray)) (inner := [.string (⟨#[]⟩ : ByteArray), .string (⟨#[45, 49]⟩ : ByteArray), .string (⟨#[55, 48, 48, 48, 48]⟩ : ByteArray), .string (⟨#[40]⟩ : ByteArray), .string (⟨#[92]⟩ : ByteArray), .string (⟨#[97, 32, 98]⟩ : ByteArray), .string (⟨#[97, 98, 99, 100, 101, 102, 103, 104, 105, 106, 107, 108, 109, 110, 111, 112, 113, 114, 115, 116, 117, 118, 119, 120, 121, 122, 97, 98, 99, 100, 101, 102]⟩ : ByteArray), .string (⟨#[195, 169]⟩ : ByteArray)]) (ok := fun _ => True) (okp := fun _ => True) ?hr ?hp (fun _ hk => hk) trivial (Below.refl _ _) (Nat.le_refl _) (by simp) ?_; (case hd => rfl); (case hg => rfl); (case hr => first | (go_simp; done) | (go_simp; rfl)); (case hp => exact (Reps.one (show Kd.M Kd.string _ _ _ (⟨#[]⟩ : ByteArray) [.string (⟨#[]⟩ : ByteArray)] from rfl) (Reps.one (show Kd.M Kd.string _ _ _ (⟨#[45, 49]⟩ : ByteArray) [.string (⟨#[45, 49]⟩ : ByteArray)] from rfl) (Reps.one (show Kd.M Kd.string _ _ _ (⟨#[55, 48, 48, 48, 48]⟩ : ByteArray) [.string (⟨#[55, 48, 48, 48, 48]⟩ : ByteArray)] from rfl) (Reps.one (show Kd.M Kd.string _ _ _ (⟨#[40]⟩ : ByteArray) [.string (⟨#[40]⟩ : ByteArray)] from rfl) (Reps.one (show Kd.M Kd.string _ _ _ (⟨#[92]⟩ : ByteArray) [.string (⟨#[92]⟩ : ByteArray)] from rfl) (Reps.one (show Kd.M Kd.string _ _ _ (⟨#[97, 32, 98]⟩ : ByteArray) [.string (⟨#[97, 32, 98]⟩ : ByteArray)] from rfl) (Reps.one (show Kd.M Kd.string _ _ _ (⟨#[97, 98, 99, 100, 101, 102, 103, 104, 105, 106, 107, 108, 109, 110, 111, 112, 113, 114, 115, 116, 117, 118, 119, 120, 121, 122, 97, 98, 99, 100, 101, 102]⟩ : ByteArray) [.string (⟨#[97, 98, 99, 100, 101, 102, 103, 104, 105, 106, 107, 108, 109, 110, 111, 112, 113, 114, 115, 116, 117, 118, 119, 120, 121, 122, 97, 98, 99, 100, 101, 102]⟩ : ByteArray)] from rfl) (Reps.one (show Kd.M Kd.string _ _ _ (⟨#[195, 169]⟩ : ByteArray) [.string (⟨#[195, 169]⟩ : ByteArray)] from rfl) (Reps.none _ _)))))))))); intro v177 w126 ho127 hb hg_ hnew_; clear hg_ hnew_; (first | rw [← Ny176.out] at ho127 | (simp only [Int.reduceToNat] at ho127; rw [← Ny176.out] at ho127)); have n0_ := Aside0.mk (Kd.R_elder' (by (with_reducible repeat (first | apply Kd.R_alloc | apply Kd.R_drewN | apply Kd.R_drew)); exact HO_3.out) (Kd.R_base ho127) hb); have n1_ := Aside0.mk (Kd.R_lower (Kd.R_new' ho127 (Kd.R_lt (by (with_reducible repeat (first | apply Kd.R_alloc | apply Kd.R_drewN | apply Kd.R_drew)); exact HO_3.out))) (below_size (by repeat (first | (with_reducible first | exact HB.out | apply below_alloc | apply pw_below_drewN | apply below_drew1) | exact HB.out)))); have n2_ := Aside0.mk (below_step (by repeat (first | (with_reducible first | exact HB.out | apply below_alloc | apply pw_below_drewN | apply below_drew1) | exact HB.out)) hb); clear HO_3; clear HB; have HO_3 := n0_; have HO178 := n1_; have HB := n2_; clear n0_ n1_ n2_; clear hb ho127))
                    go_loopg [6] k3 (fun kq v6 w' => ∃ (x6_4 : Int), v6 = .int .i64 x6_4 ∧ Aside0 (wisplaw02_TextNames.l2 kq y176 x6_4 = some r) ∧ Aside0 (kq ≤ k3) ∧ Aside0 (Kd.R Kd.string 9 w' w.heap.size (fun _ => True) v177 y176) ∧ Aside0 (Below w.heap.size w w'))
                    case atStart => exact ⟨(0), (by first | rfl | (simp; done) | (simp [*]; done) | (simp [isEmpty_ne]; done)), H', ⟨Nat.le_refl _⟩, ⟨by (with_reducible repeat (first | apply Kd.R_alloc | apply Kd.R_drewN | apply Kd.R_drew)); exact Kd.R_mono HO178.out (fun _ hk => trivial)⟩, ⟨by repeat (first | (with_reducible first | exact HB.out | apply below_alloc | apply pw_below_drewN | apply below_drew1) | exact HB.out)⟩⟩
                    case round =>
                      clear H'
                      try clear c1
                      try clear p1
                      try clear q1
                      try clear hx1
                      try clear c2
                      try clear p2
                      try clear c3
                      try clear c5
                      try clear p6
                      try clear c7
                      try clear c9
                      try clear c10
                      try clear c11
                      try clear c12
                      try clear c13
                      try clear c15
                      try clear p16
                      try clear q16
                      try clear hx16
                      try clear c17
                      try clear p17
                      try clear q17
                      try clear hx17
                      try clear c19
                      try clear c21
                      try clear c23
                      try clear c24
                      try clear c25
                      try clear p64
                      try clear c103
                      try clear c106
                      try clear c106b0
                      try clear c107
                      try clear c107b0
                      try clear c109
                      try clear c117
                      try clear c117b0
                      try clear c118
                      try clear c118b0
                      try clear c120
                      try clear hx169_0
                      try clear hx174_0
                      try clear p1
                      try clear p16
                      try clear p169
                      try clear p174
                      try clear p2
                      try clear p6
                      try clear p64
                      try clear q1
                      try clear q16
                      try clear q169
                      try clear q174
                      obtain ⟨x6_4, rfl, HA, HK4, HO_5, HB⟩ := hrel
                      cases gk with
                      | zero => exact absurd HA.out (by simp [wisplaw02_TextNames.l2])
                      | succ k4 =>
                        have H := HA.out
                        clear HA
                        simp only [wisplaw02_TextNames.l2] at H
                        by_cases c128 : x6_4 < (y176.length : Int)
                        · rw [if_pos c128] at H
                          have c128b0 : decide (x6_4 < (y176.length : Int)) = true := decide_eq_true c128
                          clear c128
                          by_cases c129 : 0 ≤ x6_4
                          · rw [if_pos c129] at H
                            have c129b0 : decide (0 ≤ x6_4) = true := decide_eq_true c129
                            clear c129
                            replace H := Option.bind_eq_some_iff.mp H
                            obtain ⟨t180, A1300, H⟩ := H
                            replace H : (if t180 = true then (some false) else (wisplaw02_TextNames.l2 k4 y176 (wrap64 (x6_4 + 1)))) = some r := H
                            have A130 := Aside0.mk A1300
                            clear A1300
                            by_cases c131 : t180 = true
                            · subst c131
                              have H1 : (some false) = some r := by rw [if_pos rfl] at H; exact H
                              clear H
                              have H := H1
                              clear H1
                              obtain rfl := Option.some.inj H
                              obtain ⟨Ao132, co132, eo132⟩ := Kd.R_slice HO_5.out
                              subst eo132
                              have p179 : 0 ≤ (x6_4 : Int) := of_decide_eq_true (by first | (with_reducible assumption) | assumption)
                              have q179 : x6_4 < (y176.length : Int) := of_decide_eq_true (by first | (with_reducible assumption) | assumption)
                              obtain ⟨ad179, e179, hx179_0⟩ := Kd.at_string (Kd.R_reads' HO_5.out).2.2 x6_4 p179 q179
                              cases e179
                              replace p179 := eq_true p179
                              replace q179 := eq_true q179
                              go_wp2_with (first | ((with_reducible refine gate_callee (f := 25) rfl ?_); refine goesL_ (some 91) rfl rfl Try.func25 (by kernel_rfl) rfl #[.string (rdOf ByteArray.empty y176 x6_4)] rfl (by (try simp only [List.map_toArray, List.map_cons, List.map_nil]); first | done | rfl | (simp only [List.length_drop, List.length_take]; rfl)) ?_; (with_reducible refine (text_Name.calls k4 (rdOf ByteArray.empty y176 x6_4) true _ A130.out).mono ?_); rintro e w133 ⟨rfl, hb⟩; refine ⟨_, rfl, ?_⟩; have n0_ := Aside0.mk (Kd.R_below (by (with_reducible repeat (first | apply Kd.R_alloc | apply Kd.R_drewN | apply Kd.R_drew)); exact HO_5.out) hb); have n1_ := Aside0.mk (below_step (by repeat (first | (with_reducible first | exact HB.out | apply below_alloc | apply pw_below_drewN | apply below_drew1) | exact HB.out)) hb); clear HO_5; clear HB; have HO_5 := n0_; have HB := n1_; clear n0_ n1_; (try clear hb); (try clear hb2); (try clear hk); (try clear hi)))
                              go_ret
                              exact ⟨by first | rfl | (simp [errW_none, errW_some] <;> rfl) | (simp [*, errW_none, errW_some] <;> rfl), by repeat (first | (with_reducible first | exact HB.out | apply below_alloc | apply pw_below_drewN | apply below_drew1) | exact HB.out)⟩
                            · replace c131 := Bool.eq_false_iff.mpr c131
                              subst c131
                              have H1 : (wisplaw02_TextNames.l2 k4 y176 (wrap64 (x6_4 + 1))) = some r := by rw [if_neg (show ¬ (false = true) by decide)] at H; exact H
                              clear H
                              have H := H1
                              clear H1
                              have H' := Aside0.mk H
                              clear H
                              obtain ⟨Ao134, co134, eo134⟩ := Kd.R_slice HO_5.out
                              subst eo134
                              have p179 : 0 ≤ (x6_4 : Int) := of_decide_eq_true (by first | (with_reducible assumption) | assumption)
                              have q179 : x6_4 < (y176.length : Int) := of_decide_eq_true (by first | (with_reducible assumption) | assumption)
                              obtain ⟨ad179, e179, hx179_0⟩ := Kd.at_string (Kd.R_reads' HO_5.out).2.2 x6_4 p179 q179
                              cases e179
                              replace p179 := eq_true p179
                              replace q179 := eq_true q179
                              go_wp2_with (first | ((with_reducible refine gate_callee (f := 25) rfl ?_); refine goesL_ (some 91) rfl rfl Try.func25 (by kernel_rfl) rfl #[.string (rdOf ByteArray.empty y176 x6_4)] rfl (by (try simp only [List.map_toArray, List.map_cons, List.map_nil]); first | done | rfl | (simp only [List.length_drop, List.length_take]; rfl)) ?_; (with_reducible refine (text_Name.calls k4 (rdOf ByteArray.empty y176 x6_4) false _ A130.out).mono ?_); rintro e w135 ⟨rfl, hb⟩; refine ⟨_, rfl, ?_⟩; have n0_ := Aside0.mk (Kd.R_below (by (with_reducible repeat (first | apply Kd.R_alloc | apply Kd.R_drewN | apply Kd.R_drew)); exact HO_5.out) hb); have n1_ := Aside0.mk (below_step (by repeat (first | (with_reducible first | exact HB.out | apply below_alloc | apply pw_below_drewN | apply below_drew1) | exact HB.out)) hb); clear HO_5; clear HB; have HO_5 := n0_; have HB := n1_; clear n0_ n1_; (try clear hb); (try clear hb2); (try clear hk); (try clear hi)))
                              go_roundg k4
                              case measure => have := HJ0.out; have := HK2.out; have := HK3.out; have := HK4.out; omega
                              case rel => exact ⟨(wrap64 (x6_4 + 1)), (by first | rfl | (simp; done) | (simp [*]; done) | (simp [isEmpty_ne]; done)), H', ⟨by have := HJ0.out; have := HK2.out; have := HK3.out; have := HK4.out; omega⟩, ⟨by (with_reducible repeat (first | apply Kd.R_alloc | apply Kd.R_drewN | apply Kd.R_drew)); exact HO_5.out⟩, ⟨by repeat (first | (with_reducible first | exact HB.out | apply below_alloc | apply pw_below_drewN | apply below_drew1) | exact HB.out)⟩⟩
                          · rw [if_neg c129] at H
                            exact absurd H (by simp)
                        · rw [if_neg c128] at H
                          have c128b0 : decide (x6_4 < (y176.length : Int)) = false := decide_eq_false c128
                          clear c128
                          obtain ⟨y181, hy181⟩ : ∃ y_ : List Int, y_ = (([0, 1, 2, 3, 6, 99, (-5)] : List Int)) := ⟨_, rfl⟩
                          replace H : ((text_Places.f k4 (⟨#[97, 98, 10, 99, 100, 10]⟩ : ByteArray) y181).bind fun t184 => ((text_Decimal.f k4 0).bind fun t187 => (if t187.toList = ([48] : List UInt8) then ((text_Hex.f 0).bind fun t188 => (if t188.toList = ([36, 48, 48, 48, 48] : List UInt8) then ((wisplaw02_same.f k4 t184 (([(⟨1, 1⟩ : S25), (⟨1, 2⟩ : S25), (⟨1, 3⟩ : S25), (⟨2, 1⟩ : S25), (⟨3, 1⟩ : S25), (⟨3, 1⟩ : S25), (⟨1, 1⟩ : S25)] : List (S25)))).bind fun t192 => (some t192)) else (some false))) else (some false)))) = some r := by first | (rw [hy181]; with_reducible exact H) | (have H2_ := (Option.bind_some _ _).symm.trans H; rw [hy181]; with_reducible exact H2_) | (have H2_ := (Option.bind_some _ _).symm.trans H; with_reducible exact H2_) | with_reducible exact H | (rw [hy181]; exact H) | exact H
                          have Ny181 := Aside0.mk hy181
                          clear hy181
                          replace H := Option.bind_eq_some_iff.mp H
                          obtain ⟨t184, A1360, H⟩ := H
                          replace H : ((text_Decimal.f k4 0).bind fun t187 => (if t187.toList = ([48] : List UInt8) then ((text_Hex.f 0).bind fun t188 => (if t188.toList = ([36, 48, 48, 48, 48] : List UInt8) then ((wisplaw02_same.f k4 t184 (([(⟨1, 1⟩ : S25), (⟨1, 2⟩ : S25), (⟨1, 3⟩ : S25), (⟨2, 1⟩ : S25), (⟨3, 1⟩ : S25), (⟨3, 1⟩ : S25), (⟨1, 1⟩ : S25)] : List (S25)))).bind fun t192 => (some t192)) else (some false))) else (some false))) = some r := H
                          have A136 := Aside0.mk A1360
                          clear A1360
                          replace H := Option.bind_eq_some_iff.mp H
                          obtain ⟨t187, A1370, H⟩ := H
                          replace H : (if t187.toList = ([48] : List UInt8) then ((text_Hex.f 0).bind fun t188 => (if t188.toList = ([36, 48, 48, 48, 48] : List UInt8) then ((wisplaw02_same.f k4 t184 (([(⟨1, 1⟩ : S25), (⟨1, 2⟩ : S25), (⟨1, 3⟩ : S25), (⟨2, 1⟩ : S25), (⟨3, 1⟩ : S25), (⟨3, 1⟩ : S25), (⟨1, 1⟩ : S25)] : List (S25)))).bind fun t192 => (some t192)) else (some false))) else (some false)) = some r := H
                          have A137 := Aside0.mk A1370
                          clear A1370
                          by_cases c138 : t187.toList = ([48] : List UInt8)
                          · rw [if_pos c138] at H
                            have c138b0 : (t187.toList == ([48] : List UInt8)) = true := beq_iff_eq.mpr c138
                            have c138b1 : (t187.toList != ([48] : List UInt8)) = false := bne_eq_false_iff_eq.mpr c138
                            clear c138
                            replace H := Option.bind_eq_some_iff.mp H
                            obtain ⟨t188, A1390, H⟩ := H
                            replace H : (if t188.toList = ([36, 48, 48, 48, 48] : List UInt8) then ((wisplaw02_same.f k4 t184 (([(⟨1, 1⟩ : S25), (⟨1, 2⟩ : S25), (⟨1, 3⟩ : S25), (⟨2, 1⟩ : S25), (⟨3, 1⟩ : S25), (⟨3, 1⟩ : S25), (⟨1, 1⟩ : S25)] : List (S25)))).bind fun t192 => (some t192)) else (some false)) = some r := H
                            have A139 := Aside0.mk A1390
                            clear A1390
                            by_cases c140 : t188.toList = ([36, 48, 48, 48, 48] : List UInt8)
                            · rw [if_pos c140] at H
                              have c140b0 : (t188.toList == ([36, 48, 48, 48, 48] : List UInt8)) = true := beq_iff_eq.mpr c140
                              have c140b1 : (t188.toList != ([36, 48, 48, 48, 48] : List UInt8)) = false := bne_eq_false_iff_eq.mpr c140
                              clear c140
                              obtain ⟨y189, hy189⟩ : ∃ y_ : List (S25), y_ = (([(⟨1, 1⟩ : S25), (⟨1, 2⟩ : S25), (⟨1, 3⟩ : S25), (⟨2, 1⟩ : S25), (⟨3, 1⟩ : S25), (⟨3, 1⟩ : S25), (⟨1, 1⟩ : S25)] : List (S25))) := ⟨_, rfl⟩
                              replace H : ((wisplaw02_same.f k4 t184 y189).bind fun t192 => (some t192)) = some r := by first | (rw [hy189]; with_reducible exact H) | (have H2_ := (Option.bind_some _ _).symm.trans H; rw [hy189]; with_reducible exact H2_) | (have H2_ := (Option.bind_some _ _).symm.trans H; with_reducible exact H2_) | with_reducible exact H | (rw [hy189]; exact H) | exact H
                              have Ny189 := Aside0.mk hy189
                              clear hy189
                              replace H := Option.bind_eq_some_iff.mp H
                              obtain ⟨t192, A1410, H⟩ := H
                              replace H : (some t192) = some r := H
                              have A141 := Aside0.mk A1410
                              clear A1410
                              obtain rfl := Option.some.inj H
                              obtain ⟨Ao142, co142, eo142⟩ := Kd.R_slice HO_5.out
                              subst eo142
                              go_wp2_with (first | ((with_reducible refine gate_dst (N := 92) rfl ?_); (try (refine gate_guard (by rfl) ?_; dsimp only)); refine Kd.R_lit (Kd.int .i64) _ 3 ?hg (N := 92) ?hd (xs := ([0, 1, 2, 3, 6, 99, (-5)] : List Int)) (inner := [.int .i64 0, .int .i64 1, .int .i64 2, .int .i64 3, .int .i64 6, .int .i64 99, .int .i64 (-5)]) (ok := fun _ => True) (okp := fun _ => True) ?hr ?hp (fun _ hk => hk) trivial (Below.refl _ _) (Nat.le_refl _) (by simp) ?_; (case hd => rfl); (case hg => rfl); (case hr => first | (go_simp; done) | (go_simp; rfl)); (case hp => exact (Reps.one (show Kd.M (Kd.int .i64) _ _ _ 0 [.int .i64 0] from rfl) (Reps.one (show Kd.M (Kd.int .i64) _ _ _ 1 [.int .i64 1] from rfl) (Reps.one (show Kd.M (Kd.int .i64) _ _ _ 2 [.int .i64 2] from rfl) (Reps.one (show Kd.M (Kd.int .i64) _ _ _ 3 [.int .i64 3] from rfl) (Reps.one (show Kd.M (Kd.int .i64) _ _ _ 6 [.int .i64 6] from rfl) (Reps.one (show Kd.M (Kd.int .i64) _ _ _ 99 [.int .i64 99] from rfl) (Reps.one (show Kd.M (Kd.int .i64) _ _ _ (-5) [.int .i64 (-5)] from rfl) (Reps.none _ _))))))))); intro v182 w143 ho144 hb hg_ hnew_; clear hg_ hnew_; (first | rw [← Ny181.out] at ho144 | (simp only [Int.reduceToNat] at ho144; rw [← Ny181.out] at ho144)); have n0_ := Aside0.mk (Kd.R_below (by (with_reducible repeat (first | apply Kd.R_alloc | apply Kd.R_drewN | apply Kd.R_drew)); exact HO_5.out) hb); have n1_ := Aside0.mk (Kd.R_lower ho144 (below_size (by repeat (first | (with_reducible first | exact HB.out | apply below_alloc | apply pw_below_drewN | apply below_drew1) | exact HB.out)))); have n2_ := Aside0.mk (below_step (by repeat (first | (with_reducible first | exact HB.out | apply below_alloc | apply pw_below_drewN | apply below_drew1) | exact HB.out)) hb); clear HO_5; clear HB; have HO_5 := n0_; have HO183 := n1_; have HB := n2_; clear n0_ n1_ n2_; clear hb ho144; obtain ⟨Ao145, co145, eo145⟩ := Kd.R_slice HO183.out; subst eo145) | ((with_reducible refine gate_callee (f := 26) rfl ?_); refine goesL_ (some 93) rfl rfl Try.func26 (by kernel_rfl) rfl #[.string (⟨#[97, 98, 10, 99, 100, 10]⟩ : ByteArray), .slice Ao145 y181.length co145] rfl (by (try simp only [List.map_toArray, List.map_cons, List.map_nil]); first | done | rfl | (simp only [List.length_drop, List.length_take]; rfl)) ?_; (with_reducible refine (text_Places.calls k4 (⟨#[97, 98, 10, 99, 100, 10]⟩ : ByteArray) _ _ y181 t184 _ ?side1 ?side2 A136.out).mono ?_); (case side1 => repeat (first | exact (Kd.R_reads' HO183.out).2.2 | (with_reducible refine Kd.C_alloc ?_ _) | (with_reducible refine Kd.C_drewN ?_ _) | (with_reducible refine Kd.C_drew ?_))); (case side2 => exact (Kd.R_reads' HO183.out).2.1); rintro e w146 ⟨v185, rfl, ho0, hb⟩; refine ⟨_, rfl, ?_⟩; have n0_ := Aside0.mk (Kd.R_below (by (with_reducible repeat (first | apply Kd.R_alloc | apply Kd.R_drewN | apply Kd.R_drew)); exact HO_5.out) hb); have n1_ := Aside0.mk (Kd.R_below (by (with_reducible repeat (first | apply Kd.R_alloc | apply Kd.R_drewN | apply Kd.R_drew)); exact HO183.out) hb); have n2_ := Aside0.mk (Kd.R_lower ho0 (below_size (by repeat (first | (with_reducible first | exact HB.out | apply below_alloc | apply pw_below_drewN | apply below_drew1) | exact HB.out)))); have n3_ := Aside0.mk (below_step (by repeat (first | (with_reducible first | exact HB.out | apply below_alloc | apply pw_below_drewN | apply below_drew1) | exact HB.out)) hb); clear HO_5; clear HO183; clear HB; have HO_5 := n0_; have HO183 := n1_; have HO186 := n2_; have HB := n3_; clear n0_ n1_ n2_ n3_; (try clear hb); (try clear hb2); (try clear hk); (try clear hi); (try clear ho0)) | ((with_reducible refine gate_callee (f := 27) rfl ?_); refine goesL_ (some 94) rfl rfl Try.func27 (by kernel_rfl) rfl #[.int .u16 0] rfl (by (try simp only [List.map_toArray, List.map_cons, List.map_nil]); first | done | rfl | (simp only [List.length_drop, List.length_take]; rfl)) ?_; (with_reducible refine (text_Decimal.calls k4 0 t187 _ A137.out).mono ?_); rintro e w147 ⟨rfl, hb⟩; refine ⟨_, rfl, ?_⟩; have n0_ := Aside0.mk (Kd.R_below (by (with_reducible repeat (first | apply Kd.R_alloc | apply Kd.R_drewN | apply Kd.R_drew)); exact HO_5.out) hb); have n1_ := Aside0.mk (Kd.R_below (by (with_reducible repeat (first | apply Kd.R_alloc | apply Kd.R_drewN | apply Kd.R_drew)); exact HO183.out) hb); have n2_ := Aside0.mk (Kd.R_below (by (with_reducible repeat (first | apply Kd.R_alloc | apply Kd.R_drewN | apply Kd.R_drew)); exact HO186.out) hb); have n3_ := Aside0.mk (below_step (by repeat (first | (with_reducible first | exact HB.out | apply below_alloc | apply pw_below_drewN | apply below_drew1) | exact HB.out)) hb); clear HO_5; clear HO183; clear HO186; clear HB; have HO_5 := n0_; have HO183 := n1_; have HO186 := n2_; have HB := n3_; clear n0_ n1_ n2_ n3_; (try clear hb); (try clear hb2); (try clear hk); (try clear hi)) | (go_at_call 28; (with_reducible refine (text_Hex.calls 0 t188 _ A139.out).mono ?_); rintro e w148 ⟨rfl, hb⟩; have n0_ := Aside0.mk (Kd.R_below (by (with_reducible repeat (first | apply Kd.R_alloc | apply Kd.R_drewN | apply Kd.R_drew)); exact HO_5.out) hb); have n1_ := Aside0.mk (Kd.R_below (by (with_reducible repeat (first | apply Kd.R_alloc | apply Kd.R_drewN | apply Kd.R_drew)); exact HO183.out) hb); have n2_ := Aside0.mk (Kd.R_below (by (with_reducible repeat (first | apply Kd.R_alloc | apply Kd.R_drewN | apply Kd.R_drew)); exact HO186.out) hb); have n3_ := Aside0.mk (below_step (by repeat (first | (with_reducible first | exact HB.out | apply below_alloc | apply pw_below_drewN | apply below_drew1) | exact HB.out)) hb); clear HO_5; clear HO183; clear HO186; clear HB; have HO_5 := n0_; have HO183 := n1_; have HO186 := n2_; have HB := n3_; clear n0_ n1_ n2_ n3_; (try clear hb); (try clear hb2); (try clear hk); (try clear hi)) | ((with_reducible refine gate_dst (N := 109) rfl ?_); (try (refine gate_guard (by rfl) ?_; dsimp only)); refine Kd.R_lit k25 _ 25 ?hg (N := 109) ?hd (xs := ([(⟨1, 1⟩ : S25), (⟨1, 2⟩ : S25), (⟨1, 3⟩ : S25), (⟨2, 1⟩ : S25), (⟨3, 1⟩ : S25), (⟨3, 1⟩ : S25), (⟨1, 1⟩ : S25)] : List (S25))) (inner := [.int .i64 1, .int .i64 1, .int .i64 1, .int .i64 2, .int .i64 1, .int .i64 3, .int .i64 2, .int .i64 1, .int .i64 3, .int .i64 1, .int .i64 3, .int .i64 1, .int .i64 1, .int .i64 1]) (ok := fun _ => True) (okp := fun _ => True) ?hr ?hp (fun _ hk => hk) trivial (Below.refl _ _) (Nat.le_refl _) (by simp) ?_; (case hd => rfl); (case hg => rfl); (case hr => first | (go_simp; done) | (go_simp; rfl)); (case hp => exact (Reps.c2 (show Kd.M k25 _ _ _ (⟨1, 1⟩ : S25) [.int .i64 1, .int .i64 1] from (k25_mkM _ _ _ (⟨1, 1⟩ : S25) )) (Reps.c2 (show Kd.M k25 _ _ _ (⟨1, 2⟩ : S25) [.int .i64 1, .int .i64 2] from (k25_mkM _ _ _ (⟨1, 2⟩ : S25) )) (Reps.c2 (show Kd.M k25 _ _ _ (⟨1, 3⟩ : S25) [.int .i64 1, .int .i64 3] from (k25_mkM _ _ _ (⟨1, 3⟩ : S25) )) (Reps.c2 (show Kd.M k25 _ _ _ (⟨2, 1⟩ : S25) [.int .i64 2, .int .i64 1] from (k25_mkM _ _ _ (⟨2, 1⟩ : S25) )) (Reps.c2 (show Kd.M k25 _ _ _ (⟨3, 1⟩ : S25) [.int .i64 3, .int .i64 1] from (k25_mkM _ _ _ (⟨3, 1⟩ : S25) )) (Reps.c2 (show Kd.M k25 _ _ _ (⟨3, 1⟩ : S25) [.int .i64 3, .int .i64 1] from (k25_mkM _ _ _ (⟨3, 1⟩ : S25) )) (Reps.c2 (show Kd.M k25 _ _ _ (⟨1, 1⟩ : S25) [.int .i64 1, .int .i64 1] from (k25_mkM _ _ _ (⟨1, 1⟩ : S25) )) (Reps.none _ _))))))))); intro v190 w149 ho150 hb hg_ hnew_; clear hg_ hnew_; (first | rw [← Ny189.out] at ho150 | (simp only [Int.reduceToNat] at ho150; rw [← Ny189.out] at ho150)); have n0_ := Aside0.mk (Kd.R_below (by (with_reducible repeat (first | apply Kd.R_alloc | apply Kd.R_drewN | apply Kd.R_drew)); exact HO_5.out) hb); have n1_ := Aside0.mk (Kd.R_below (by (with_reducible repeat (first | apply Kd.R_alloc | apply Kd.R_drewN | apply Kd.R_drew)); exact HO183.out) hb); have n2_ := Aside0.mk (Kd.R_elder' (by (with_reducible repeat (first | apply Kd.R_alloc | apply Kd.R_drewN | apply Kd.R_drew)); exact HO186.out) (Kd.R_base ho150) hb); have n3_ := Aside0.mk (Kd.R_lower (Kd.R_new' ho150 (Kd.R_lt (by (with_reducible repeat (first | apply Kd.R_alloc | apply Kd.R_drewN | apply Kd.R_drew)); exact HO186.out))) (below_size (by repeat (first | (with_reducible first | exact HB.out | apply below_alloc | apply pw_below_drewN | apply below_drew1) | exact HB.out)))); have n4_ := Aside0.mk (below_step (by repeat (first | (with_reducible first | exact HB.out | apply below_alloc | apply pw_below_drewN | apply below_drew1) | exact HB.out)) hb); clear HO_5; clear HO183; clear HO186; clear HB; have HO_5 := n0_; have HO183 := n1_; have HO186 := n2_; have HO191 := n3_; have HB := n4_; clear n0_ n1_ n2_ n3_ n4_; clear hb ho150; obtain ⟨Ao151, co151, eo151⟩ := Kd.R_slice HO186.out; subst eo151; obtain ⟨Ao152, co152, eo152⟩ := Kd.R_slice HO191.out; subst eo152) | (go_at_call 29; (with_reducible refine (wisplaw02_same.calls k4 _ _ t184 _ _ y189 t192 _ ?side1 ?side2 ?side3 ?side4 A141.out).mono ?_); (case side1 => repeat (first | exact (Kd.R_reads' HO186.out).2.2 | (with_reducible refine Kd.C_alloc ?_ _) | (with_reducible refine Kd.C_drewN ?_ _) | (with_reducible refine Kd.C_drew ?_))); (case side2 => exact (Kd.R_reads' HO186.out).2.1); (case side3 => repeat (first | exact (Kd.R_reads' HO191.out).2.2 | (with_reducible refine Kd.C_alloc ?_ _) | (with_reducible refine Kd.C_drewN ?_ _) | (with_reducible refine Kd.C_drew ?_))); (case side4 => exact (Kd.R_reads' HO191.out).2.1); rintro e w' ⟨rfl, ⟨nd, rfl⟩⟩))
                              go_ret
                              exact ⟨by first | rfl | (simp [errW_none, errW_some] <;> rfl) | (simp [*, errW_none, errW_some] <;> rfl), by repeat (first | (with_reducible first | exact HB.out | apply below_alloc | apply pw_below_drewN | apply below_drew1) | exact HB.out)⟩
                            · rw [if_neg c140] at H
                              have c140b0 : (t188.toList == ([36, 48, 48, 48, 48] : List UInt8)) = false := beq_eq_false_iff_ne.mpr c140
                              have c140b1 : (t188.toList != ([36, 48, 48, 48, 48] : List UInt8)) = true := bne_iff_ne.mpr c140
                              obtain rfl := Option.some.inj H
                              obtain ⟨Ao153, co153, eo153⟩ := Kd.R_slice HO_5.out
                              subst eo153
                              go_wp2_with (first | ((with_reducible refine gate_dst (N := 92) rfl ?_); (try (refine gate_guard (by rfl) ?_; dsimp only)); refine Kd.R_lit (Kd.int .i64) _ 3 ?hg (N := 92) ?hd (xs := ([0, 1, 2, 3, 6, 99, (-5)] : List Int)) (inner := [.int .i64 0, .int .i64 1, .int .i64 2, .int .i64 3, .int .i64 6, .int .i64 99, .int .i64 (-5)]) (ok := fun _ => True) (okp := fun _ => True) ?hr ?hp (fun _ hk => hk) trivial (Below.refl _ _) (Nat.le_refl _) (by simp) ?_; (case hd => rfl); (case hg => rfl); (case hr => first | (go_simp; done) | (go_simp; rfl)); (case hp => exact (Reps.one (show Kd.M (Kd.int .i64) _ _ _ 0 [.int .i64 0] from rfl) (Reps.one (show Kd.M (Kd.int .i64) _ _ _ 1 [.int .i64 1] from rfl) (Reps.one (show Kd.M (Kd.int .i64) _ _ _ 2 [.int .i64 2] from rfl) (Reps.one (show Kd.M (Kd.int .i64) _ _ _ 3 [.int .i64 3] from rfl) (Reps.one (show Kd.M (Kd.int .i64) _ _ _ 6 [.int .i64 6] from rfl) (Reps.one (show Kd.M (Kd.int .i64) _ _ _ 99 [.int .i64 99] from rfl) (Reps.one (show Kd.M (Kd.int .i64) _ _ _ (-5) [.int .i64 (-5)] from rfl) (Reps.none _ _))))))))); intro v182 w154 ho155 hb hg_ hnew_; clear hg_ hnew_; (first | rw [← Ny181.out] at ho155 | (simp only [Int.reduceToNat] at ho155; rw [← Ny181.out] at ho155)); have n0_ := Aside0.mk (Kd.R_below (by (with_reducible repeat (first | apply Kd.R_alloc | apply Kd.R_drewN | apply Kd.R_drew)); exact HO_5.out) hb); have n1_ := Aside0.mk (Kd.R_lower ho155 (below_size (by repeat (first | (with_reducible first | exact HB.out | apply below_alloc | apply pw_below_drewN | apply below_drew1) | exact HB.out)))); have n2_ := Aside0.mk (below_step (by repeat (first | (with_reducible first | exact HB.out | apply below_alloc | apply pw_below_drewN | apply below_drew1) | exact HB.out)) hb); clear HO_5; clear HB; have HO_5 := n0_; have HO183 := n1_; have HB := n2_; clear n0_ n1_ n2_; clear hb ho155; obtain ⟨Ao156, co156, eo156⟩ := Kd.R_slice HO183.out; subst eo156) | ((with_reducible refine gate_callee (f := 26) rfl ?_); refine goesL_ (some 93) rfl rfl Try.func26 (by kernel_rfl) rfl #[.string (⟨#[97, 98, 10, 99, 100, 10]⟩ : ByteArray), .slice Ao156 y181.length co156] rfl (by (try simp only [List.map_toArray, List.map_cons, List.map_nil]); first | done | rfl | (simp only [List.length_drop, List.length_take]; rfl)) ?_; (with_reducible refine (text_Places.calls k4 (⟨#[97, 98, 10, 99, 100, 10]⟩ : ByteArray) _ _ y181 t184 _ ?side1 ?side2 A136.out).mono ?_); (case side1 => repeat (first | exact (Kd.R_reads' HO183.out).2.2 | (with_reducible refine Kd.C_alloc ?_ _) | (with_reducible refine Kd.C_drewN ?_ _) | (with_reducible refine Kd.C_drew ?_))); (case side2 => exact (Kd.R_reads' HO183.out).2.1); rintro e w157 ⟨v185, rfl, ho0, hb⟩; refine ⟨_, rfl, ?_⟩; have n0_ := Aside0.mk (Kd.R_below (by (with_reducible repeat (first | apply Kd.R_alloc | apply Kd.R_drewN | apply Kd.R_drew)); exact HO_5.out) hb); have n1_ := Aside0.mk (Kd.R_below (by (with_reducible repeat (first | apply Kd.R_alloc | apply Kd.R_drewN | apply Kd.R_drew)); exact HO183.out) hb); have n2_ := Aside0.mk (Kd.R_lower ho0 (below_size (by repeat (first | (with_reducible first | exact HB.out | apply below_alloc | apply pw_below_drewN | apply below_drew1) | exact HB.out)))); have n3_ := Aside0.mk (below_step (by repeat (first | (with_reducible first | exact HB.out | apply below_alloc | apply pw_below_drewN | apply below_drew1) | exact HB.out)) hb); clear HO_5; clear HO183; clear HB; have HO_5 := n0_; have HO183 := n1_; have HO186 := n2_; have HB := n3_; clear n0_ n1_ n2_ n3_; (try clear hb); (try clear hb2); (try clear hk); (try clear hi); (try clear ho0)) | ((with_reducible refine gate_callee (f := 27) rfl ?_); refine goesL_ (some 94) rfl rfl Try.func27 (by kernel_rfl) rfl #[.int .u16 0] rfl (by (try simp only [List.map_toArray, List.map_cons, List.map_nil]); first | done | rfl | (simp only [List.length_drop, List.length_take]; rfl)) ?_; (with_reducible refine (text_Decimal.calls k4 0 t187 _ A137.out).mono ?_); rintro e w158 ⟨rfl, hb⟩; refine ⟨_, rfl, ?_⟩; have n0_ := Aside0.mk (Kd.R_below (by (with_reducible repeat (first | apply Kd.R_alloc | apply Kd.R_drewN | apply Kd.R_drew)); exact HO_5.out) hb); have n1_ := Aside0.mk (Kd.R_below (by (with_reducible repeat (first | apply Kd.R_alloc | apply Kd.R_drewN | apply Kd.R_drew)); exact HO183.out) hb); have n2_ := Aside0.mk (Kd.R_below (by (with_reducible repeat (first | apply Kd.R_alloc | apply Kd.R_drewN | apply Kd.R_drew)); exact HO186.out) hb); have n3_ := Aside0.mk (below_step (by repeat (first | (with_reducible first | exact HB.out | apply below_alloc | apply pw_below_drewN | apply below_drew1) | exact HB.out)) hb); clear HO_5; clear HO183; clear HO186; clear HB; have HO_5 := n0_; have HO183 := n1_; have HO186 := n2_; have HB := n3_; clear n0_ n1_ n2_ n3_; (try clear hb); (try clear hb2); (try clear hk); (try clear hi)) | (go_at_call 28; (with_reducible refine (text_Hex.calls 0 t188 _ A139.out).mono ?_); rintro e w159 ⟨rfl, hb⟩; have n0_ := Aside0.mk (Kd.R_below (by (with_reducible repeat (first | apply Kd.R_alloc | apply Kd.R_drewN | apply Kd.R_drew)); exact HO_5.out) hb); have n1_ := Aside0.mk (Kd.R_below (by (with_reducible repeat (first | apply Kd.R_alloc | apply Kd.R_drewN | apply Kd.R_drew)); exact HO183.out) hb); have n2_ := Aside0.mk (Kd.R_below (by (with_reducible repeat (first | apply Kd.R_alloc | apply Kd.R_drewN | apply Kd.R_drew)); exact HO186.out) hb); have n3_ := Aside0.mk (below_step (by repeat (first | (with_reducible first | exact HB.out | apply below_alloc | apply pw_below_drewN | apply below_drew1) | exact HB.out)) hb); clear HO_5; clear HO183; clear HO186; clear HB; have HO_5 := n0_; have HO183 := n1_; have HO186 := n2_; have HB := n3_; clear n0_ n1_ n2_ n3_; (try clear hb); (try clear hb2); (try clear hk); (try clear hi)))
                              go_ret
                              exact ⟨by first | rfl | (simp [errW_none, errW_some] <;> rfl) | (simp [*, errW_none, errW_some] <;> rfl), by repeat (first | (with_reducible first | exact HB.out | apply below_alloc | apply pw_below_drewN | apply below_drew1) | exact HB.out)⟩
                          · rw [if_neg c138] at H
                            have c138b0 : (t187.toList == ([48] : List UInt8)) = false := beq_eq_false_iff_ne.mpr c138
                            have c138b1 : (t187.toList != ([48] : List UInt8)) = true := bne_iff_ne.mpr c138
                            obtain rfl := Option.some.inj H
                            obtain ⟨Ao160, co160, eo160⟩ := Kd.R_slice HO_5.out
                            subst eo160
                            go_wp2_with (first | ((with_reducible refine gate_dst (N := 92) rfl ?_); (try (refine gate_guard (by rfl) ?_; dsimp only)); refine Kd.R_lit (Kd.int .i64) _ 3 ?hg (N := 92) ?hd (xs := ([0, 1, 2, 3, 6, 99, (-5)] : List Int)) (inner := [.int .i64 0, .int .i64 1, .int .i64 2, .int .i64 3, .int .i64 6, .int .i64 99, .int .i64 (-5)]) (ok := fun _ => True) (okp := fun _ => True) ?hr ?hp (fun _ hk => hk) trivial (Below.refl _ _) (Nat.le_refl _) (by simp) ?_; (case hd => rfl); (case hg => rfl); (case hr => first | (go_simp; done) | (go_simp; rfl)); (case hp => exact (Reps.one (show Kd.M (Kd.int .i64) _ _ _ 0 [.int .i64 0] from rfl) (Reps.one (show Kd.M (Kd.int .i64) _ _ _ 1 [.int .i64 1] from rfl) (Reps.one (show Kd.M (Kd.int .i64) _ _ _ 2 [.int .i64 2] from rfl) (Reps.one (show Kd.M (Kd.int .i64) _ _ _ 3 [.int .i64 3] from rfl) (Reps.one (show Kd.M (Kd.int .i64) _ _ _ 6 [.int .i64 6] from rfl) (Reps.one (show Kd.M (Kd.int .i64) _ _ _ 99 [.int .i64 99] from rfl) (Reps.one (show Kd.M (Kd.int .i64) _ _ _ (-5) [.int .i64 (-5)] from rfl) (Reps.none _ _))))))))); intro v182 w161 ho162 hb hg_ hnew_; clear hg_ hnew_; (first | rw [← Ny181.out] at ho162 | (simp only [Int.reduceToNat] at ho162; rw [← Ny181.out] at ho162)); have n0_ := Aside0.mk (Kd.R_below (by (with_reducible repeat (first | apply Kd.R_alloc | apply Kd.R_drewN | apply Kd.R_drew)); exact HO_5.out) hb); have n1_ := Aside0.mk (Kd.R_lower ho162 (below_size (by repeat (first | (with_reducible first | exact HB.out | apply below_alloc | apply pw_below_drewN | apply below_drew1) | exact HB.out)))); have n2_ := Aside0.mk (below_step (by repeat (first | (with_reducible first | exact HB.out | apply below_alloc | apply pw_below_drewN | apply below_drew1) | exact HB.out)) hb); clear HO_5; clear HB; have HO_5 := n0_; have HO183 := n1_; have HB := n2_; clear n0_ n1_ n2_; clear hb ho162; obtain ⟨Ao163, co163, eo163⟩ := Kd.R_slice HO183.out; subst eo163) | ((with_reducible refine gate_callee (f := 26) rfl ?_); refine goesL_ (some 93) rfl rfl Try.func26 (by kernel_rfl) rfl #[.string (⟨#[97, 98, 10, 99, 100, 10]⟩ : ByteArray), .slice Ao163 y181.length co163] rfl (by (try simp only [List.map_toArray, List.map_cons, List.map_nil]); first | done | rfl | (simp only [List.length_drop, List.length_take]; rfl)) ?_; (with_reducible refine (text_Places.calls k4 (⟨#[97, 98, 10, 99, 100, 10]⟩ : ByteArray) _ _ y181 t184 _ ?side1 ?side2 A136.out).mono ?_); (case side1 => repeat (first | exact (Kd.R_reads' HO183.out).2.2 | (with_reducible refine Kd.C_alloc ?_ _) | (with_reducible refine Kd.C_drewN ?_ _) | (with_reducible refine Kd.C_drew ?_))); (case side2 => exact (Kd.R_reads' HO183.out).2.1); rintro e w164 ⟨v185, rfl, ho0, hb⟩; refine ⟨_, rfl, ?_⟩; have n0_ := Aside0.mk (Kd.R_below (by (with_reducible repeat (first | apply Kd.R_alloc | apply Kd.R_drewN | apply Kd.R_drew)); exact HO_5.out) hb); have n1_ := Aside0.mk (Kd.R_below (by (with_reducible repeat (first | apply Kd.R_alloc | apply Kd.R_drewN | apply Kd.R_drew)); exact HO183.out) hb); have n2_ := Aside0.mk (Kd.R_lower ho0 (below_size (by repeat (first | (with_reducible first | exact HB.out | apply below_alloc | apply pw_below_drewN | apply below_drew1) | exact HB.out)))); have n3_ := Aside0.mk (below_step (by repeat (first | (with_reducible first | exact HB.out | apply below_alloc | apply pw_below_drewN | apply below_drew1) | exact HB.out)) hb); clear HO_5; clear HO183; clear HB; have HO_5 := n0_; have HO183 := n1_; have HO186 := n2_; have HB := n3_; clear n0_ n1_ n2_ n3_; (try clear hb); (try clear hb2); (try clear hk); (try clear hi); (try clear ho0)) | ((with_reducible refine gate_callee (f := 27) rfl ?_); refine goesL_ (some 94) rfl rfl Try.func27 (by kernel_rfl) rfl #[.int .u16 0] rfl (by (try simp only [List.map_toArray, List.map_cons, List.map_nil]); first | done | rfl | (simp only [List.length_drop, List.length_take]; rfl)) ?_; (with_reducible refine (text_Decimal.calls k4 0 t187 _ A137.out).mono ?_); rintro e w165 ⟨rfl, hb⟩; refine ⟨_, rfl, ?_⟩; have n0_ := Aside0.mk (Kd.R_below (by (with_reducible repeat (first | apply Kd.R_alloc | apply Kd.R_drewN | apply Kd.R_drew)); exact HO_5.out) hb); have n1_ := Aside0.mk (Kd.R_below (by (with_reducible repeat (first | apply Kd.R_alloc | apply Kd.R_drewN | apply Kd.R_drew)); exact HO183.out) hb); have n2_ := Aside0.mk (Kd.R_below (by (with_reducible repeat (first | apply Kd.R_alloc | apply Kd.R_drewN | apply Kd.R_drew)); exact HO186.out) hb); have n3_ := Aside0.mk (below_step (by repeat (first | (with_reducible first | exact HB.out | apply below_alloc | apply pw_below_drewN | apply below_drew1) | exact HB.out)) hb); clear HO_5; clear HO183; clear HO186; clear HB; have HO_5 := n0_; have HO183 := n1_; have HO186 := n2_; have HB := n3_; clear n0_ n1_ n2_ n3_; (try clear hb); (try clear hb2); (try clear hk); (try clear hi)))
                            go_ret
                            exact ⟨by first | rfl | (simp [errW_none, errW_some] <;> rfl) | (simp [*, errW_none, errW_some] <;> rfl), by repeat (first | (with_reducible first | exact HB.out | apply below_alloc | apply pw_below_drewN | apply below_drew1) | exact HB.out)⟩

/-- THE ONE PURE STATEMENT of wisplaw02_TextNames: yours. -/
def wisplaw02_TextNames.Pure : Prop := ∃ k, wisplaw02_TextNames.f k  = some true
theorem wisplaw02_TextNames.walk (P : wisplaw02_TextNames.Pure)  (w : World)  :
    Calls Try.prog 7 #[] w fun e w' => e = .returned (.bool true) ∧ Below w.heap.size w w' := by
  obtain ⟨k, h⟩ := P  
  refine (wisplaw02_TextNames.calls k  true w h).mono ?_
  rintro e w' ⟨rfl, hd⟩
  exact ⟨rfl, hd⟩

end Go.Proofs.Ytjphhnhloeanlaa.P
