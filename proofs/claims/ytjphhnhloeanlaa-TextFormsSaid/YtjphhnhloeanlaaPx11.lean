/- Printed by a program of this session (it turns the kit's print): see wip/myprint. -/
import Derived.Test.YtjphhnhloeanlaaPx0
import Derived.Test.YtjphhnhloeanlaaPx5
namespace Go.Proofs.Ytjphhnhloeanlaa.P
open Go.RowKit Go.Proofs.YtjphhnhloeanlaaW.PrintWords Go.Proofs.YtjphhnhloeanlaaW.PrintLast Go.Proofs.YtjphhnhloeanlaaW.PrintMore Go.Proofs.Ytjphhnhloeanlaa.Mine
attribute [local go_sem] max2_int min2_int max_two min_two max_three min_three max_four min_four   -- for this text's walks alone
set_option linter.unusedVariables false
set_option linter.unusedSimpArgs false

/-! ### wisplaw02_TextForms: function 12 -/
mutual
def wisplaw02_TextForms.l0 : Nat → Int → Int → ByteArray → ByteArray → ByteArray → Int → Option (Bool)
  | 0, _, _, _, _, _, _ => none
  | k + 1, x1, x5, x6, x7, x8, x9 => if x9 > 0 then ((some (([(wrap64 (48 + (Int.tmod x9 10))) % 256] : List Int) : List Int)).bind fun y250 => (if (strOfNums y250).size + x6.size ≤ 9223372036854775807 then (wisplaw02_TextForms.l0 k x1 x5 ((strOfNums y250) ++ x6) x7 x8 (wrap64 (Int.tdiv x9 10))) else (none))) else (if x6.toList = ([] : List UInt8) then ((some (([(wrap64 (48 + (Int.tmod x9 10))) % 256] : List Int) : List Int)).bind fun y253 => (if (strOfNums y253).size + x6.size ≤ 9223372036854775807 then (wisplaw02_TextForms.l0 k x1 x5 ((strOfNums y253) ++ x6) x7 x8 (wrap64 (Int.tdiv x9 10))) else (none))) else (wisplaw02_TextForms.l1 k x1 x5 x6 x7 x8 x5))
def wisplaw02_TextForms.l1 : Nat → Int → Int → ByteArray → ByteArray → ByteArray → Int → Option (Bool)
  | 0, _, _, _, _, _, _ => none
  | k + 1, x1, x5, x6, x7, x8, x10 => if x10 > 0 then (if 0 ≤ (Int.tmod x10 16) then (if (Int.tmod x10 16) ≤ (wrap64 ((Int.tmod x10 16) + 1)) then (if (wrap64 ((Int.tmod x10 16) + 1)) ≤ 16 then (if ((⟨#[48, 49, 50, 51, 52, 53, 54, 55, 56, 57, 97, 98, 99, 100, 101, 102]⟩ : ByteArray).extract ((Int.tmod x10 16) : Int).toNat ((wrap64 ((Int.tmod x10 16) + 1)) : Int).toNat).size + x7.size ≤ 9223372036854775807 then (wisplaw02_TextForms.l1 k x1 x5 x6 (((⟨#[48, 49, 50, 51, 52, 53, 54, 55, 56, 57, 97, 98, 99, 100, 101, 102]⟩ : ByteArray).extract ((Int.tmod x10 16) : Int).toNat ((wrap64 ((Int.tmod x10 16) + 1)) : Int).toNat) ++ x7) x8 (wrap64 (Int.tdiv x10 16))) else (none)) else (none)) else (none)) else (none)) else (if x7.toList = ([] : List UInt8) then (if 0 ≤ (Int.tmod x10 16) then (if (Int.tmod x10 16) ≤ (wrap64 ((Int.tmod x10 16) + 1)) then (if (wrap64 ((Int.tmod x10 16) + 1)) ≤ 16 then (if ((⟨#[48, 49, 50, 51, 52, 53, 54, 55, 56, 57, 97, 98, 99, 100, 101, 102]⟩ : ByteArray).extract ((Int.tmod x10 16) : Int).toNat ((wrap64 ((Int.tmod x10 16) + 1)) : Int).toNat).size + x7.size ≤ 9223372036854775807 then (wisplaw02_TextForms.l1 k x1 x5 x6 (((⟨#[48, 49, 50, 51, 52, 53, 54, 55, 56, 57, 97, 98, 99, 100, 101, 102]⟩ : ByteArray).extract ((Int.tmod x10 16) : Int).toNat ((wrap64 ((Int.tmod x10 16) + 1)) : Int).toNat) ++ x7) x8 (wrap64 (Int.tdiv x10 16))) else (none)) else (none)) else (none)) else (none)) else (wisplaw02_TextForms.l2 k x1 x5 x6 x7 x8 x5))
def wisplaw02_TextForms.l2 : Nat → Int → Int → ByteArray → ByteArray → ByteArray → Int → Option (Bool)
  | 0, _, _, _, _, _, _ => none
  | k + 1, x1, x5, x6, x7, x8, x11 => if x11 > 0 then ((some (([(wrap64 (48 + (Int.tmod x11 2))) % 256] : List Int) : List Int)).bind fun y256 => (if (strOfNums y256).size + x8.size ≤ 9223372036854775807 then (wisplaw02_TextForms.l2 k x1 x5 x6 x7 ((strOfNums y256) ++ x8) (wrap64 (Int.tdiv x11 2))) else (none))) else (if x8.toList = ([] : List UInt8) then ((some (([(wrap64 (48 + (Int.tmod x11 2))) % 256] : List Int) : List Int)).bind fun y259 => (if (strOfNums y259).size + x8.size ≤ 9223372036854775807 then (wisplaw02_TextForms.l2 k x1 x5 x6 x7 ((strOfNums y259) ++ x8) (wrap64 (Int.tdiv x11 2))) else (none))) else (if x5 > 65535 then (wisplaw02_TextForms.j3 k x1 x5 x6 x7 x8 0 21) else (wisplaw02_TextForms.j3 k x1 x5 x6 x7 x8 (IntKind.u16.wrap (x5)) 0)))
def wisplaw02_TextForms.j3 : Nat → Int → Int → ByteArray → ByteArray → ByteArray → Int → Int → Option (Bool)
  | 0, _, _, _, _, _, _, _ => none
  | k + 1, x1, x5, x6, x7, x8, x12, x13 => (wisplaw02_told.f k x6 x12 x13).bind fun t262 => (if t262 = true then (if 1 + x7.size ≤ 9223372036854775807 then ((wisplaw02_told.f k ((⟨#[36]⟩ : ByteArray) ++ x7) x12 x13).bind fun t263 => (if t263 = true then (if 1 + x8.size ≤ 9223372036854775807 then ((wisplaw02_told.f k ((⟨#[37]⟩ : ByteArray) ++ x8) x12 x13).bind fun t264 => (wisplaw02_TextForms.j4 k x1 x5 x6 x7 x8 (!t264))) else (none)) else (wisplaw02_TextForms.j4 k x1 x5 x6 x7 x8 true))) else (none)) else (wisplaw02_TextForms.j4 k x1 x5 x6 x7 x8 true))
def wisplaw02_TextForms.j4 : Nat → Int → Int → ByteArray → ByteArray → ByteArray → Bool → Option (Bool)
  | 0, _, _, _, _, _, _ => none
  | k + 1, x1, x5, x6, x7, x8, x102 => if x102 = true then (some false) else (if x5 ≤ 32768 then (if 1 + x6.size ≤ 9223372036854775807 then ((wisplaw02_told.f k ((⟨#[45]⟩ : ByteArray) ++ x6) (IntKind.u16.wrap (-(IntKind.u16.wrap (x5)))) 0).bind fun t265 => (if t265 = true then (wisplaw02_TextForms.j5 k x1 x6 x7 x8) else (some false))) else (none)) else (wisplaw02_TextForms.j5 k x1 x6 x7 x8))
def wisplaw02_TextForms.j5 : Nat → Int → ByteArray → ByteArray → ByteArray → Option (Bool)
  | 0, _, _, _, _ => none
  | k + 1, x1, x6, x7, x8 => if x1 ≥ 48 then (if x1 ≤ 57 then (wisplaw02_TextForms.j6 k x1 x6 x7 x8 true) else (if x1 ≥ 97 then (wisplaw02_TextForms.j6 k x1 x6 x7 x8 (decide (x1 ≤ 102))) else (wisplaw02_TextForms.j6 k x1 x6 x7 x8 false))) else (if x1 ≥ 97 then (wisplaw02_TextForms.j6 k x1 x6 x7 x8 (decide (x1 ≤ 102))) else (wisplaw02_TextForms.j6 k x1 x6 x7 x8 false))
def wisplaw02_TextForms.j6 : Nat → Int → ByteArray → ByteArray → ByteArray → Bool → Option (Bool)
  | 0, _, _, _, _, _ => none
  | k + 1, x1, x6, x7, x8, x126 => if x126 = true then (some true) else ((some (([x1] : List Int) : List Int)).bind fun y266 => (if x6.size + (strOfNums y266).size ≤ 9223372036854775807 then ((wisplaw02_told.f k (x6 ++ (strOfNums y266)) 0 20).bind fun t269 => (if t269 = true then (if 1 + x7.size ≤ 9223372036854775807 then (if ((⟨#[36]⟩ : ByteArray) ++ x7).size + (strOfNums y266).size ≤ 9223372036854775807 then ((wisplaw02_told.f k (((⟨#[36]⟩ : ByteArray) ++ x7) ++ (strOfNums y266)) 0 20).bind fun t270 => (if t270 = true then (if 1 + x8.size ≤ 9223372036854775807 then (if ((⟨#[37]⟩ : ByteArray) ++ x8).size + (strOfNums y266).size ≤ 9223372036854775807 then ((wisplaw02_told.f k (((⟨#[37]⟩ : ByteArray) ++ x8) ++ (strOfNums y266)) 0 20).bind fun t271 => (some t271)) else (none)) else (none)) else (some false))) else (none)) else (none)) else (some false))) else (none)))
end
def wisplaw02_TextForms.f (k : Nat) (a0 : Int) (a1 : Int) : Option (Bool) := (wisplaw02_fixed.f k).bind fun t249 => (if t249 = true then (wisplaw02_TextForms.l0 k a1 (mx (wrap64 ((Int.tmod (wrap64 ((Int.tmod a0 110001) + 110001)) 110001) - 40000)) (wrap64 (-(wrap64 ((Int.tmod (wrap64 ((Int.tmod a0 110001) + 110001)) 110001) - 40000))))) (⟨#[]⟩ : ByteArray) (⟨#[]⟩ : ByteArray) (⟨#[]⟩ : ByteArray) (mx (wrap64 ((Int.tmod (wrap64 ((Int.tmod a0 110001) + 110001)) 110001) - 40000)) (wrap64 (-(wrap64 ((Int.tmod (wrap64 ((Int.tmod a0 110001) + 110001)) 110001) - 40000)))))) else (some false))
theorem wisplaw02_TextForms.mono_l : ∀ k, (∀ y0 y1 y2 y3 y4 y5, LeO (wisplaw02_TextForms.l0 k y0 y1 y2 y3 y4 y5) (wisplaw02_TextForms.l0 (k + 1) y0 y1 y2 y3 y4 y5)) ∧ (∀ y0 y1 y2 y3 y4 y5, LeO (wisplaw02_TextForms.l1 k y0 y1 y2 y3 y4 y5) (wisplaw02_TextForms.l1 (k + 1) y0 y1 y2 y3 y4 y5)) ∧ (∀ y0 y1 y2 y3 y4 y5, LeO (wisplaw02_TextForms.l2 k y0 y1 y2 y3 y4 y5) (wisplaw02_TextForms.l2 (k + 1) y0 y1 y2 y3 y4 y5)) ∧ (∀ y0 y1 y2 y3 y4 y5 y6, LeO (wisplaw02_TextForms.j3 k y0 y1 y2 y3 y4 y5 y6) (wisplaw02_TextForms.j3 (k + 1) y0 y1 y2 y3 y4 y5 y6)) ∧ (∀ y0 y1 y2 y3 y4 y5, LeO (wisplaw02_TextForms.j4 k y0 y1 y2 y3 y4 y5) (wisplaw02_TextForms.j4 (k + 1) y0 y1 y2 y3 y4 y5)) ∧ (∀ y0 y1 y2 y3, LeO (wisplaw02_TextForms.j5 k y0 y1 y2 y3) (wisplaw02_TextForms.j5 (k + 1) y0 y1 y2 y3)) ∧ (∀ y0 y1 y2 y3 y4, LeO (wisplaw02_TextForms.j6 k y0 y1 y2 y3 y4) (wisplaw02_TextForms.j6 (k + 1) y0 y1 y2 y3 y4))
  | 0 => ⟨fun _ _ _ _ _ _ r h => by simp [wisplaw02_TextForms.l0] at h, fun _ _ _ _ _ _ r h => by simp [wisplaw02_TextForms.l1] at h, fun _ _ _ _ _ _ r h => by simp [wisplaw02_TextForms.l2] at h, fun _ _ _ _ _ _ _ r h => by simp [wisplaw02_TextForms.j3] at h, fun _ _ _ _ _ _ r h => by simp [wisplaw02_TextForms.j4] at h, fun _ _ _ _ r h => by simp [wisplaw02_TextForms.j5] at h, fun _ _ _ _ _ r h => by simp [wisplaw02_TextForms.j6] at h⟩
  | k + 1 => by
    obtain ⟨ih0, ih1, ih2, ih3, ih4, ih5, ih6⟩ := wisplaw02_TextForms.mono_l k
    refine ⟨?_, ?_, ?_, ?_, ?_, ?_, ?_⟩
    · intro y0 y1 y2 y3 y4 y5
      unfold wisplaw02_TextForms.l0
      repeat' first
      | (with_reducible exact ih0 _ _ _ _ _ _)
      | (with_reducible exact ih1 _ _ _ _ _ _)
      | (with_reducible exact ih2 _ _ _ _ _ _)
      | (with_reducible exact ih3 _ _ _ _ _ _ _)
      | (with_reducible exact ih4 _ _ _ _ _ _)
      | (with_reducible exact ih5 _ _ _ _)
      | (with_reducible exact ih6 _ _ _ _ _)
      | (with_reducible exact wisplaw02_fixed.mono _)
      | (with_reducible exact wisplaw02_told.mono _ _ _ _)
      | (with_reducible exact LeO.refl _)
      | (with_reducible exact LeO.none _)
      | (with_reducible refine LeO.ite ?_ ?_)
      | (with_reducible refine LeO.bind ?_ (fun _ => ?_))
      | exact ih0 _ _ _ _ _ _
      | exact ih1 _ _ _ _ _ _
      | exact ih2 _ _ _ _ _ _
      | exact ih3 _ _ _ _ _ _ _
      | exact ih4 _ _ _ _ _ _
      | exact ih5 _ _ _ _
      | exact ih6 _ _ _ _ _
      | exact wisplaw02_fixed.mono _
      | exact wisplaw02_told.mono _ _ _ _
      | exact LeO.none _
      | refine LeO.ite ?_ ?_
      | refine LeO.bind ?_ (fun _ => ?_)
    · intro y0 y1 y2 y3 y4 y5
      unfold wisplaw02_TextForms.l1
      repeat' first
      | (with_reducible exact ih0 _ _ _ _ _ _)
      | (with_reducible exact ih1 _ _ _ _ _ _)
      | (with_reducible exact ih2 _ _ _ _ _ _)
      | (with_reducible exact ih3 _ _ _ _ _ _ _)
      | (with_reducible exact ih4 _ _ _ _ _ _)
      | (with_reducible exact ih5 _ _ _ _)
      | (with_reducible exact ih6 _ _ _ _ _)
      | (with_reducible exact wisplaw02_fixed.mono _)
      | (with_reducible exact wisplaw02_told.mono _ _ _ _)
      | (with_reducible exact LeO.refl _)
      | (with_reducible exact LeO.none _)
      | (with_reducible refine LeO.ite ?_ ?_)
      | (with_reducible refine LeO.bind ?_ (fun _ => ?_))
      | exact ih0 _ _ _ _ _ _
      | exact ih1 _ _ _ _ _ _
      | exact ih2 _ _ _ _ _ _
      | exact ih3 _ _ _ _ _ _ _
      | exact ih4 _ _ _ _ _ _
      | exact ih5 _ _ _ _
      | exact ih6 _ _ _ _ _
      | exact wisplaw02_fixed.mono _
      | exact wisplaw02_told.mono _ _ _ _
      | exact LeO.none _
      | refine LeO.ite ?_ ?_
      | refine LeO.bind ?_ (fun _ => ?_)
    · intro y0 y1 y2 y3 y4 y5
      unfold wisplaw02_TextForms.l2
      repeat' first
      | (with_reducible exact ih0 _ _ _ _ _ _)
      | (with_reducible exact ih1 _ _ _ _ _ _)
      | (with_reducible exact ih2 _ _ _ _ _ _)
      | (with_reducible exact ih3 _ _ _ _ _ _ _)
      | (with_reducible exact ih4 _ _ _ _ _ _)
      | (with_reducible exact ih5 _ _ _ _)
      | (with_reducible exact ih6 _ _ _ _ _)
      | (with_reducible exact wisplaw02_fixed.mono _)
      | (with_reducible exact wisplaw02_told.mono _ _ _ _)
      | (with_reducible exact LeO.refl _)
      | (with_reducible exact LeO.none _)
      | (with_reducible refine LeO.ite ?_ ?_)
      | (with_reducible refine LeO.bind ?_ (fun _ => ?_))
      | exact ih0 _ _ _ _ _ _
      | exact ih1 _ _ _ _ _ _
      | exact ih2 _ _ _ _ _ _
      | exact ih3 _ _ _ _ _ _ _
      | exact ih4 _ _ _ _ _ _
      | exact ih5 _ _ _ _
      | exact ih6 _ _ _ _ _
      | exact wisplaw02_fixed.mono _
      | exact wisplaw02_told.mono _ _ _ _
      | exact LeO.none _
      | refine LeO.ite ?_ ?_
      | refine LeO.bind ?_ (fun _ => ?_)
    · intro y0 y1 y2 y3 y4 y5 y6
      unfold wisplaw02_TextForms.j3
      repeat' first
      | (with_reducible exact ih0 _ _ _ _ _ _)
      | (with_reducible exact ih1 _ _ _ _ _ _)
      | (with_reducible exact ih2 _ _ _ _ _ _)
      | (with_reducible exact ih3 _ _ _ _ _ _ _)
      | (with_reducible exact ih4 _ _ _ _ _ _)
      | (with_reducible exact ih5 _ _ _ _)
      | (with_reducible exact ih6 _ _ _ _ _)
      | (with_reducible exact wisplaw02_fixed.mono _)
      | (with_reducible exact wisplaw02_told.mono _ _ _ _)
      | (with_reducible exact LeO.refl _)
      | (with_reducible exact LeO.none _)
      | (with_reducible refine LeO.ite ?_ ?_)
      | (with_reducible refine LeO.bind ?_ (fun _ => ?_))
      | exact ih0 _ _ _ _ _ _
      | exact ih1 _ _ _ _ _ _
      | exact ih2 _ _ _ _ _ _
      | exact ih3 _ _ _ _ _ _ _
      | exact ih4 _ _ _ _ _ _
      | exact ih5 _ _ _ _
      | exact ih6 _ _ _ _ _
      | exact wisplaw02_fixed.mono _
      | exact wisplaw02_told.mono _ _ _ _
      | exact LeO.none _
      | refine LeO.ite ?_ ?_
      | refine LeO.bind ?_ (fun _ => ?_)
    · intro y0 y1 y2 y3 y4 y5
      unfold wisplaw02_TextForms.j4
      repeat' first
      | (with_reducible exact ih0 _ _ _ _ _ _)
      | (with_reducible exact ih1 _ _ _ _ _ _)
      | (with_reducible exact ih2 _ _ _ _ _ _)
      | (with_reducible exact ih3 _ _ _ _ _ _ _)
      | (with_reducible exact ih4 _ _ _ _ _ _)
      | (with_reducible exact ih5 _ _ _ _)
      | (with_reducible exact ih6 _ _ _ _ _)
      | (with_reducible exact wisplaw02_fixed.mono _)
      | (with_reducible exact wisplaw02_told.mono _ _ _ _)
      | (with_reducible exact LeO.refl _)
      | (with_reducible exact LeO.none _)
      | (with_reducible refine LeO.ite ?_ ?_)
      | (with_reducible refine LeO.bind ?_ (fun _ => ?_))
      | exact ih0 _ _ _ _ _ _
      | exact ih1 _ _ _ _ _ _
      | exact ih2 _ _ _ _ _ _
      | exact ih3 _ _ _ _ _ _ _
      | exact ih4 _ _ _ _ _ _
      | exact ih5 _ _ _ _
      | exact ih6 _ _ _ _ _
      | exact wisplaw02_fixed.mono _
      | exact wisplaw02_told.mono _ _ _ _
      | exact LeO.none _
      | refine LeO.ite ?_ ?_
      | refine LeO.bind ?_ (fun _ => ?_)
    · intro y0 y1 y2 y3
      unfold wisplaw02_TextForms.j5
      repeat' first
      | (with_reducible exact ih0 _ _ _ _ _ _)
      | (with_reducible exact ih1 _ _ _ _ _ _)
      | (with_reducible exact ih2 _ _ _ _ _ _)
      | (with_reducible exact ih3 _ _ _ _ _ _ _)
      | (with_reducible exact ih4 _ _ _ _ _ _)
      | (with_reducible exact ih5 _ _ _ _)
      | (with_reducible exact ih6 _ _ _ _ _)
      | (with_reducible exact wisplaw02_fixed.mono _)
      | (with_reducible exact wisplaw02_told.mono _ _ _ _)
      | (with_reducible exact LeO.refl _)
      | (with_reducible exact LeO.none _)
      | (with_reducible refine LeO.ite ?_ ?_)
      | (with_reducible refine LeO.bind ?_ (fun _ => ?_))
      | exact ih0 _ _ _ _ _ _
      | exact ih1 _ _ _ _ _ _
      | exact ih2 _ _ _ _ _ _
      | exact ih3 _ _ _ _ _ _ _
      | exact ih4 _ _ _ _ _ _
      | exact ih5 _ _ _ _
      | exact ih6 _ _ _ _ _
      | exact wisplaw02_fixed.mono _
      | exact wisplaw02_told.mono _ _ _ _
      | exact LeO.none _
      | refine LeO.ite ?_ ?_
      | refine LeO.bind ?_ (fun _ => ?_)
    · intro y0 y1 y2 y3 y4
      unfold wisplaw02_TextForms.j6
      repeat' first
      | (with_reducible exact ih0 _ _ _ _ _ _)
      | (with_reducible exact ih1 _ _ _ _ _ _)
      | (with_reducible exact ih2 _ _ _ _ _ _)
      | (with_reducible exact ih3 _ _ _ _ _ _ _)
      | (with_reducible exact ih4 _ _ _ _ _ _)
      | (with_reducible exact ih5 _ _ _ _)
      | (with_reducible exact ih6 _ _ _ _ _)
      | (with_reducible exact wisplaw02_fixed.mono _)
      | (with_reducible exact wisplaw02_told.mono _ _ _ _)
      | (with_reducible exact LeO.refl _)
      | (with_reducible exact LeO.none _)
      | (with_reducible refine LeO.ite ?_ ?_)
      | (with_reducible refine LeO.bind ?_ (fun _ => ?_))
      | exact ih0 _ _ _ _ _ _
      | exact ih1 _ _ _ _ _ _
      | exact ih2 _ _ _ _ _ _
      | exact ih3 _ _ _ _ _ _ _
      | exact ih4 _ _ _ _ _ _
      | exact ih5 _ _ _ _
      | exact ih6 _ _ _ _ _
      | exact wisplaw02_fixed.mono _
      | exact wisplaw02_told.mono _ _ _ _
      | exact LeO.none _
      | refine LeO.ite ?_ ?_
      | refine LeO.bind ?_ (fun _ => ?_)
theorem wisplaw02_TextForms.mono : ∀ a0 a1 k, LeO (wisplaw02_TextForms.f k a0 a1) (wisplaw02_TextForms.f (k + 1) a0 a1) := by
  intro a0 a1 k
  obtain ⟨ih0, ih1, ih2, ih3, ih4, ih5, ih6⟩ := wisplaw02_TextForms.mono_l k
  unfold wisplaw02_TextForms.f
  repeat' first
      | (with_reducible exact ih0 _ _ _ _ _ _)
      | (with_reducible exact ih1 _ _ _ _ _ _)
      | (with_reducible exact ih2 _ _ _ _ _ _)
      | (with_reducible exact ih3 _ _ _ _ _ _ _)
      | (with_reducible exact ih4 _ _ _ _ _ _)
      | (with_reducible exact ih5 _ _ _ _)
      | (with_reducible exact ih6 _ _ _ _ _)
      | (with_reducible exact wisplaw02_fixed.mono _)
      | (with_reducible exact wisplaw02_told.mono _ _ _ _)
      | (with_reducible exact LeO.refl _)
      | (with_reducible exact LeO.none _)
      | (with_reducible refine LeO.ite ?_ ?_)
      | (with_reducible refine LeO.bind ?_ (fun _ => ?_))
      | exact ih0 _ _ _ _ _ _
      | exact ih1 _ _ _ _ _ _
      | exact ih2 _ _ _ _ _ _
      | exact ih3 _ _ _ _ _ _ _
      | exact ih4 _ _ _ _ _ _
      | exact ih5 _ _ _ _
      | exact ih6 _ _ _ _ _
      | exact wisplaw02_fixed.mono _
      | exact wisplaw02_told.mono _ _ _ _
      | exact LeO.none _
      | refine LeO.ite ?_ ?_
      | refine LeO.bind ?_ (fun _ => ?_)
set_option maxHeartbeats 8000000 in
set_option maxRecDepth 100000 in
theorem wisplaw02_TextForms.calls (k : Nat) (a0 : Int) (a1 : Int) (r : Bool) (w : World) (h : wisplaw02_TextForms.f k a0 a1 = some r) :
    Calls Try.prog 12 #[.int .i64 a0, .int .u8 a1] w fun e w' => e = .returned (.bool r) ∧ Below w.heap.size w w' := by
  have HB := Aside0.mk (Below.refl w.heap.size w)
  have H : ((wisplaw02_fixed.f k).bind fun t249 => (if t249 = true then (wisplaw02_TextForms.l0 k a1 (mx (wrap64 ((Int.tmod (wrap64 ((Int.tmod a0 110001) + 110001)) 110001) - 40000)) (wrap64 (-(wrap64 ((Int.tmod (wrap64 ((Int.tmod a0 110001) + 110001)) 110001) - 40000))))) (⟨#[]⟩ : ByteArray) (⟨#[]⟩ : ByteArray) (⟨#[]⟩ : ByteArray) (mx (wrap64 ((Int.tmod (wrap64 ((Int.tmod a0 110001) + 110001)) 110001) - 40000)) (wrap64 (-(wrap64 ((Int.tmod (wrap64 ((Int.tmod a0 110001) + 110001)) 110001) - 40000)))))) else (some false))) = some r := h
  clear h
  replace H := Option.bind_eq_some_iff.mp H
  obtain ⟨t249, A30, H⟩ := H
  replace H : (if t249 = true then (wisplaw02_TextForms.l0 k a1 (mx (wrap64 ((Int.tmod (wrap64 ((Int.tmod a0 110001) + 110001)) 110001) - 40000)) (wrap64 (-(wrap64 ((Int.tmod (wrap64 ((Int.tmod a0 110001) + 110001)) 110001) - 40000))))) (⟨#[]⟩ : ByteArray) (⟨#[]⟩ : ByteArray) (⟨#[]⟩ : ByteArray) (mx (wrap64 ((Int.tmod (wrap64 ((Int.tmod a0 110001) + 110001)) 110001) - 40000)) (wrap64 (-(wrap64 ((Int.tmod (wrap64 ((Int.tmod a0 110001) + 110001)) 110001) - 40000)))))) else (some false)) = some r := H
  have A3 := Aside0.mk A30
  clear A30
  by_cases c4 : t249 = true
  · subst c4
    have H1 : (wisplaw02_TextForms.l0 k a1 (mx (wrap64 ((Int.tmod (wrap64 ((Int.tmod a0 110001) + 110001)) 110001) - 40000)) (wrap64 (-(wrap64 ((Int.tmod (wrap64 ((Int.tmod a0 110001) + 110001)) 110001) - 40000))))) (⟨#[]⟩ : ByteArray) (⟨#[]⟩ : ByteArray) (⟨#[]⟩ : ByteArray) (mx (wrap64 ((Int.tmod (wrap64 ((Int.tmod a0 110001) + 110001)) 110001) - 40000)) (wrap64 (-(wrap64 ((Int.tmod (wrap64 ((Int.tmod a0 110001) + 110001)) 110001) - 40000)))))) = some r := by rw [if_pos rfl] at H; exact H
    clear H
    have H := H1
    clear H1
    obtain ⟨ji5, hji5⟩ : ∃ j_ : Int, (mx (wrap64 ((Int.tmod (wrap64 ((Int.tmod a0 110001) + 110001)) 110001) - 40000)) (wrap64 (-(wrap64 ((Int.tmod (wrap64 ((Int.tmod a0 110001) + 110001)) 110001) - 40000))))) = j_ := ⟨_, rfl⟩
    replace H : (wisplaw02_TextForms.l0 k a1 ji5 (⟨#[]⟩ : ByteArray) (⟨#[]⟩ : ByteArray) (⟨#[]⟩ : ByteArray) ji5) = some r := by first | (rw [hji5] at H; exact H) | (simp only [hji5] at H ⊢; exact H)
    (try rw [hji5] at A3)
    have hji5_ : (if (wrap64 ((Int.tmod (wrap64 ((Int.tmod a0 110001) + 110001)) 110001) - 40000)) < (wrap64 (-(wrap64 ((Int.tmod (wrap64 ((Int.tmod a0 110001) + 110001)) 110001) - 40000)))) then (wrap64 (-(wrap64 ((Int.tmod (wrap64 ((Int.tmod a0 110001) + 110001)) 110001) - 40000)))) else (wrap64 ((Int.tmod (wrap64 ((Int.tmod a0 110001) + 110001)) 110001) - 40000))) = ji5 := hji5
    have H' := Aside0.mk H
    clear H
    go_enter Try.func12, Try.ntmps12
    go_wp2_with (first | ((with_reducible refine gate_callee (f := 23) rfl ?_); refine goesL_ (some 16) rfl rfl Try.func23 (by kernel_rfl) rfl #[] rfl (by (try simp only [List.map_toArray, List.map_cons, List.map_nil]); first | done | rfl | (simp only [List.length_drop, List.length_take]; rfl)) ?_; (with_reducible refine (wisplaw02_fixed.calls k  true _ A3.out).mono ?_); rintro e w6 ⟨rfl, hb⟩; refine ⟨_, rfl, ?_⟩; have n0_ := Aside0.mk (below_step (by repeat (first | (with_reducible first | exact HB.out | apply below_alloc | apply pw_below_drewN | apply below_drew1) | exact HB.out)) hb); clear HB; have HB := n0_; clear n0_; (try clear hb); (try clear hb2); (try clear hk); (try clear hi)))
    go_loopg [6, 9] k (fun kq v6 v9 w' => ∃ (x6_1 : ByteArray) (x9_1 : Int), v6 = .string x6_1 ∧ v9 = .int .i64 x9_1 ∧ Aside0 (wisplaw02_TextForms.l0 kq a1 ji5 x6_1 (⟨#[]⟩ : ByteArray) (⟨#[]⟩ : ByteArray) x9_1 = some r) ∧ Aside0 (kq ≤ k) ∧ Aside0 (Below w.heap.size w w'))
    case atStart => exact ⟨((⟨#[]⟩ : ByteArray)), (ji5), (by first | rfl | (simp; done) | (simp [*]; done) | (simp [isEmpty_ne]; done)), (by first | rfl | (simp; done) | (simp only [← hji5] <;> (first | rfl | simp)) | (simp [*]; done) | (simp [isEmpty_ne]; done)), H', ⟨Nat.le_refl _⟩, ⟨by repeat (first | (with_reducible first | exact HB.out | apply below_alloc | apply pw_below_drewN | apply below_drew1) | exact HB.out)⟩⟩
    case round =>
      clear H'
      try clear c1
      try clear c2
      try clear p2
      try clear c4
      try clear p6
      obtain ⟨x6_1, x9_1, rfl, rfl, HA, HK1, HB⟩ := hrel
      cases gk with
      | zero => exact absurd HA.out (by simp [wisplaw02_TextForms.l0])
      | succ k1 =>
        have H := HA.out
        clear HA
        simp only [wisplaw02_TextForms.l0] at H
        by_cases c7 : x9_1 > 0
        · rw [if_pos c7] at H
          have c7b0 : decide (0 < x9_1) = true := decide_eq_true c7
          clear c7
          obtain ⟨y250, hy250⟩ : ∃ y_ : List Int, y_ = (([(wrap64 (48 + (Int.tmod x9_1 10))) % 256] : List Int)) := ⟨_, rfl⟩
          replace H : (if (strOfNums y250).size + x6_1.size ≤ 9223372036854775807 then (wisplaw02_TextForms.l0 k1 a1 ji5 ((strOfNums y250) ++ x6_1) (⟨#[]⟩ : ByteArray) (⟨#[]⟩ : ByteArray) (wrap64 (Int.tdiv x9_1 10))) else (none)) = some r := by first | (rw [hy250]; with_reducible exact H) | (have H2_ := (Option.bind_some _ _).symm.trans H; rw [hy250]; with_reducible exact H2_) | (have H2_ := (Option.bind_some _ _).symm.trans H; with_reducible exact H2_) | with_reducible exact H | (rw [hy250]; exact H) | exact H
          have Ny250 := Aside0.mk hy250
          clear hy250
          by_cases c8 : (strOfNums y250).size + x6_1.size ≤ 9223372036854775807
          · rw [if_pos c8] at H
            have c8b0 := eq_true c8
            have c8b1 : decide ((strOfNums y250).size + x6_1.size ≤ 9223372036854775807) = true := decide_eq_true c8
            try have c8b2 : (9223372036854775807 < (strOfNums y250).size + x6_1.size) = False := eq_false (Nat.not_lt.2 c8)
            have H' := Aside0.mk H
            clear H
            go_wp2_with (first | ((with_reducible refine gate_dst (N := 40) rfl ?_); refine Kd.R_lit (Kd.int .u8) _ 5 ?hg (N := 40) ?hd (xs := ([(wrap64 (48 + (Int.tmod x9_1 10))) % 256] : List Int)) (inner := [.int .u8 ((wrap64 (48 + (Int.tmod x9_1 10))) % 256)]) (ok := fun _ => True) (okp := fun _ => True) ?hr ?hp (fun _ hk => hk) trivial (Below.refl _ _) (Nat.le_refl _) (by simp) ?_; (case hd => rfl); (case hg => rfl); (case hr => first | (go_simp; done) | (go_simp; rfl)); (case hp => exact (Reps.one (show Kd.M (Kd.int .u8) _ _ _ ((wrap64 (48 + (Int.tmod x9_1 10))) % 256) [.int .u8 ((wrap64 (48 + (Int.tmod x9_1 10))) % 256)] from rfl) (Reps.none _ _))); intro v251 w9 ho10 hb hg_ hnew_; clear hg_ hnew_; (first | rw [← Ny250.out] at ho10 | (simp only [Int.reduceToNat] at ho10; rw [← Ny250.out] at ho10)); have n0_ := Aside0.mk (Kd.R_lower ho10 (below_size (by repeat (first | (with_reducible first | exact HB.out | apply below_alloc | apply pw_below_drewN | apply below_drew1) | exact HB.out)))); have n1_ := Aside0.mk (below_step (by repeat (first | (with_reducible first | exact HB.out | apply below_alloc | apply pw_below_drewN | apply below_drew1) | exact HB.out)) hb); clear HB; have HO252 := n0_; have HB := n1_; clear n0_ n1_; clear hb ho10; have hcv11 := own_string (P := Try.prog) Try.underlying75 Try.underlying5 Try.underlying9 (Kd.own_of_R HO252.out)))
            go_roundg k1
            case measure => have := HK1.out; omega
            case rel => exact ⟨((strOfNums y250) ++ x6_1), (wrap64 (Int.tdiv x9_1 10)), (by first | rfl | (simp; done) | (simp [*]; done) | (simp [isEmpty_ne]; done)), (by first | rfl | (simp; done) | (simp [*]; done) | (simp [isEmpty_ne]; done)), H', ⟨by have := HK1.out; omega⟩, ⟨by repeat (first | (with_reducible first | exact HB.out | apply below_alloc | apply pw_below_drewN | apply below_drew1) | exact HB.out)⟩⟩
          · rw [if_neg c8] at H
            exact absurd H (by simp)
        · rw [if_neg c7] at H
          have c7b0 : decide (0 < x9_1) = false := decide_eq_false c7
          clear c7
          by_cases c12 : x6_1.toList = ([] : List UInt8)
          · rw [if_pos c12] at H
            have c12b0 : (x6_1.toList == ([] : List UInt8)) = true := beq_iff_eq.mpr c12
            have c12b1 : (x6_1.toList != ([] : List UInt8)) = false := bne_eq_false_iff_eq.mpr c12
            clear c12
            obtain ⟨y253, hy253⟩ : ∃ y_ : List Int, y_ = (([(wrap64 (48 + (Int.tmod x9_1 10))) % 256] : List Int)) := ⟨_, rfl⟩
            replace H : (if (strOfNums y253).size + x6_1.size ≤ 9223372036854775807 then (wisplaw02_TextForms.l0 k1 a1 ji5 ((strOfNums y253) ++ x6_1) (⟨#[]⟩ : ByteArray) (⟨#[]⟩ : ByteArray) (wrap64 (Int.tdiv x9_1 10))) else (none)) = some r := by first | (rw [hy253]; with_reducible exact H) | (have H2_ := (Option.bind_some _ _).symm.trans H; rw [hy253]; with_reducible exact H2_) | (have H2_ := (Option.bind_some _ _).symm.trans H; with_reducible exact H2_) | with_reducible exact H | (rw [hy253]; exact H) | exact H
            have Ny253 := Aside0.mk hy253
            clear hy253
            by_cases c13 : (strOfNums y253).size + x6_1.size ≤ 9223372036854775807
            · rw [if_pos c13] at H
              have c13b0 := eq_true c13
              have c13b1 : decide ((strOfNums y253).size + x6_1.size ≤ 9223372036854775807) = true := decide_eq_true c13
              try have c13b2 : (9223372036854775807 < (strOfNums y253).size + x6_1.size) = False := eq_false (Nat.not_lt.2 c13)
              have H' := Aside0.mk H
              clear H
              go_wp2_with (first | ((with_reducible refine gate_dst (N := 40) rfl ?_); refine Kd.R_lit (Kd.int .u8) _ 5 ?hg (N := 40) ?hd (xs := ([(wrap64 (48 + (Int.tmod x9_1 10))) % 256] : List Int)) (inner := [.int .u8 ((wrap64 (48 + (Int.tmod x9_1 10))) % 256)]) (ok := fun _ => True) (okp := fun _ => True) ?hr ?hp (fun _ hk => hk) trivial (Below.refl _ _) (Nat.le_refl _) (by simp) ?_; (case hd => rfl); (case hg => rfl); (case hr => first | (go_simp; done) | (go_simp; rfl)); (case hp => exact (Reps.one (show Kd.M (Kd.int .u8) _ _ _ ((wrap64 (48 + (Int.tmod x9_1 10))) % 256) [.int .u8 ((wrap64 (48 + (Int.tmod x9_1 10))) % 256)] from rfl) (Reps.none _ _))); intro v254 w14 ho15 hb hg_ hnew_; clear hg_ hnew_; (first | rw [← Ny253.out] at ho15 | (simp only [Int.reduceToNat] at ho15; rw [← Ny253.out] at ho15)); have n0_ := Aside0.mk (Kd.R_lower ho15 (below_size (by repeat (first | (with_reducible first | exact HB.out | apply below_alloc | apply pw_below_drewN | apply below_drew1) | exact HB.out)))); have n1_ := Aside0.mk (below_step (by repeat (first | (with_reducible first | exact HB.out | apply below_alloc | apply pw_below_drewN | apply below_drew1) | exact HB.out)) hb); clear HB; have HO255 := n0_; have HB := n1_; clear n0_ n1_; clear hb ho15; have hcv16 := own_string (P := Try.prog) Try.underlying75 Try.underlying5 Try.underlying9 (Kd.own_of_R HO255.out)))
              go_roundg k1
              case measure => have := HK1.out; omega
              case rel => exact ⟨((strOfNums y253) ++ x6_1), (wrap64 (Int.tdiv x9_1 10)), (by first | rfl | (simp; done) | (simp [*]; done) | (simp [isEmpty_ne]; done)), (by first | rfl | (simp; done) | (simp [*]; done) | (simp [isEmpty_ne]; done)), H', ⟨by have := HK1.out; omega⟩, ⟨by repeat (first | (with_reducible first | exact HB.out | apply below_alloc | apply pw_below_drewN | apply below_drew1) | exact HB.out)⟩⟩
            · rw [if_neg c13] at H
              exact absurd H (by simp)
          · rw [if_neg c12] at H
            have c12b0 : (x6_1.toList == ([] : List UInt8)) = false := beq_eq_false_iff_ne.mpr c12
            have c12b1 : (x6_1.toList != ([] : List UInt8)) = true := bne_iff_ne.mpr c12
            have H' := Aside0.mk H
            clear H
            go_wp2
            go_loopg [7, 10] k1 (fun kq v7 v10 w' => ∃ (x7_2 : ByteArray) (x10_2 : Int), v7 = .string x7_2 ∧ v10 = .int .i64 x10_2 ∧ Aside0 (wisplaw02_TextForms.l1 kq a1 ji5 x6_1 x7_2 (⟨#[]⟩ : ByteArray) x10_2 = some r) ∧ Aside0 (kq ≤ k1) ∧ Aside0 (Below w.heap.size w w'))
            case atStart => exact ⟨((⟨#[]⟩ : ByteArray)), (ji5), (by first | rfl | (simp; done) | (simp [*]; done) | (simp [isEmpty_ne]; done)), (by first | rfl | (simp; done) | (simp only [← hji5] <;> (first | rfl | simp)) | (simp [*]; done) | (simp [isEmpty_ne]; done)), H', ⟨Nat.le_refl _⟩, ⟨by repeat (first | (with_reducible first | exact HB.out | apply below_alloc | apply pw_below_drewN | apply below_drew1) | exact HB.out)⟩⟩
            case round =>
              clear H'
              try clear c1
              try clear hcv1
              try clear c2
              try clear p2
              try clear c4
              try clear p6
              try clear c7
              try clear c7b0
              try clear c8
              try clear c8b0
              try clear c8b1
              try clear c8b2
              try clear hcv11
              try clear c12
              try clear c12b0
              try clear c12b1
              try clear c13
              try clear c13b0
              try clear c13b1
              try clear c13b2
              try clear hcv16
              try clear p2
              try clear p6
              obtain ⟨x7_2, x10_2, rfl, rfl, HA, HK2, HB⟩ := hrel
              cases gk with
              | zero => exact absurd HA.out (by simp [wisplaw02_TextForms.l1])
              | succ k2 =>
                have H := HA.out
                clear HA
                simp only [wisplaw02_TextForms.l1] at H
                by_cases c17 : x10_2 > 0
                · rw [if_pos c17] at H
                  have c17b0 : decide (0 < x10_2) = true := decide_eq_true c17
                  clear c17
                  obtain ⟨ji18, hji18⟩ : ∃ j_ : Int, (Int.tmod x10_2 16) = j_ := ⟨_, rfl⟩
                  replace H : (if 0 ≤ (ji18) then (if (ji18) ≤ (wrap64 ((ji18) + 1)) then (if (wrap64 ((ji18) + 1)) ≤ 16 then (if ((⟨#[48, 49, 50, 51, 52, 53, 54, 55, 56, 57, 97, 98, 99, 100, 101, 102]⟩ : ByteArray).extract ((ji18) : Int).toNat ((wrap64 ((ji18) + 1)) : Int).toNat).size + x7_2.size ≤ 9223372036854775807 then (wisplaw02_TextForms.l1 k2 a1 ji5 x6_1 (((⟨#[48, 49, 50, 51, 52, 53, 54, 55, 56, 57, 97, 98, 99, 100, 101, 102]⟩ : ByteArray).extract ((ji18) : Int).toNat ((wrap64 ((ji18) + 1)) : Int).toNat) ++ x7_2) (⟨#[]⟩ : ByteArray) (wrap64 (Int.tdiv x10_2 16))) else (none)) else (none)) else (none)) else (none)) = some r := by first | (rw [hji18] at H; exact H) | (simp only [hji18] at H ⊢; exact H)
                  by_cases c19 : 0 ≤ (ji18)
                  · rw [if_pos c19] at H
                    have c19b0 := eq_true c19
                    have c19b1 : decide (0 ≤ (ji18)) = true := decide_eq_true c19
                    clear c19
                    by_cases c20 : (ji18) ≤ (wrap64 ((ji18) + 1))
                    · rw [if_pos c20] at H
                      have c20b0 := eq_true c20
                      have c20b1 : decide ((ji18) ≤ (wrap64 ((ji18) + 1))) = true := decide_eq_true c20
                      by_cases c21 : (wrap64 ((ji18) + 1)) ≤ 16
                      · rw [if_pos c21] at H
                        have c21b0 := eq_true c21
                        have c21b1 : decide ((wrap64 ((ji18) + 1)) ≤ 16) = true := decide_eq_true c21
                        by_cases c22 : ((⟨#[48, 49, 50, 51, 52, 53, 54, 55, 56, 57, 97, 98, 99, 100, 101, 102]⟩ : ByteArray).extract ((ji18) : Int).toNat ((wrap64 ((ji18) + 1)) : Int).toNat).size + x7_2.size ≤ 9223372036854775807
                        · rw [if_pos c22] at H
                          have c22b0 := eq_true c22
                          have c22b1 : decide (((⟨#[48, 49, 50, 51, 52, 53, 54, 55, 56, 57, 97, 98, 99, 100, 101, 102]⟩ : ByteArray).extract ((ji18) : Int).toNat ((wrap64 ((ji18) + 1)) : Int).toNat).size + x7_2.size ≤ 9223372036854775807) = true := decide_eq_true c22
                          try have c22b2 : (9223372036854775807 < ((⟨#[48, 49, 50, 51, 52, 53, 54, 55, 56, 57, 97, 98, 99, 100, 101, 102]⟩ : ByteArray).extract ((ji18) : Int).toNat ((wrap64 ((ji18) + 1)) : Int).toNat).size + x7_2.size) = False := eq_false (Nat.not_lt.2 c22)
                          have H' := Aside0.mk H
                          clear H
                          go_wp2
                          go_roundg k2
                          case measure => have := HK1.out; have := HK2.out; omega
                          case rel => exact ⟨(((⟨#[48, 49, 50, 51, 52, 53, 54, 55, 56, 57, 97, 98, 99, 100, 101, 102]⟩ : ByteArray).extract ((ji18) : Int).toNat ((wrap64 ((ji18) + 1)) : Int).toNat) ++ x7_2), (wrap64 (Int.tdiv x10_2 16)), (by first | rfl | (simp; done) | (simp only [← hji18] <;> (first | rfl | simp)) | (simp [*]; done) | (simp [isEmpty_ne]; done)), (by first | rfl | (simp; done) | (simp [*]; done) | (simp [isEmpty_ne]; done)), H', ⟨by have := HK1.out; have := HK2.out; omega⟩, ⟨by repeat (first | (with_reducible first | exact HB.out | apply below_alloc | apply pw_below_drewN | apply below_drew1) | exact HB.out)⟩⟩
                        · rw [if_neg c22] at H
                          exact absurd H (by simp)
                      · rw [if_neg c21] at H
                        exact absurd H (by simp)
                    · rw [if_neg c20] at H
                      exact absurd H (by simp)
                  · rw [if_neg c19] at H
                    exact absurd H (by simp)
                · rw [if_neg c17] at H
                  have c17b0 : decide (0 < x10_2) = false := decide_eq_false c17
                  clear c17
                  by_cases c23 : x7_2.toList = ([] : List UInt8)
                  · rw [if_pos c23] at H
                    have c23b0 : (x7_2.toList == ([] : List UInt8)) = true := beq_iff_eq.mpr c23
                    have c23b1 : (x7_2.toList != ([] : List UInt8)) = false := bne_eq_false_iff_eq.mpr c23
                    clear c23
                    obtain ⟨ji24, hji24⟩ : ∃ j_ : Int, (Int.tmod x10_2 16) = j_ := ⟨_, rfl⟩
                    replace H : (if 0 ≤ (ji24) then (if (ji24) ≤ (wrap64 ((ji24) + 1)) then (if (wrap64 ((ji24) + 1)) ≤ 16 then (if ((⟨#[48, 49, 50, 51, 52, 53, 54, 55, 56, 57, 97, 98, 99, 100, 101, 102]⟩ : ByteArray).extract ((ji24) : Int).toNat ((wrap64 ((ji24) + 1)) : Int).toNat).size + x7_2.size ≤ 9223372036854775807 then (wisplaw02_TextForms.l1 k2 a1 ji5 x6_1 (((⟨#[48, 49, 50, 51, 52, 53, 54, 55, 56, 57, 97, 98, 99, 100, 101, 102]⟩ : ByteArray).extract ((ji24) : Int).toNat ((wrap64 ((ji24) + 1)) : Int).toNat) ++ x7_2) (⟨#[]⟩ : ByteArray) (wrap64 (Int.tdiv x10_2 16))) else (none)) else (none)) else (none)) else (none)) = some r := by first | (rw [hji24] at H; exact H) | (simp only [hji24] at H ⊢; exact H)
                    by_cases c25 : 0 ≤ (ji24)
                    · rw [if_pos c25] at H
                      have c25b0 := eq_true c25
                      have c25b1 : decide (0 ≤ (ji24)) = true := decide_eq_true c25
                      clear c25
                      by_cases c26 : (ji24) ≤ (wrap64 ((ji24) + 1))
                      · rw [if_pos c26] at H
                        have c26b0 := eq_true c26
                        have c26b1 : decide ((ji24) ≤ (wrap64 ((ji24) + 1))) = true := decide_eq_true c26
                        by_cases c27 : (wrap64 ((ji24) + 1)) ≤ 16
                        · rw [if_pos c27] at H
                          have c27b0 := eq_true c27
                          have c27b1 : decide ((wrap64 ((ji24) + 1)) ≤ 16) = true := decide_eq_true c27
                          by_cases c28 : ((⟨#[48, 49, 50, 51, 52, 53, 54, 55, 56, 57, 97, 98, 99, 100, 101, 102]⟩ : ByteArray).extract ((ji24) : Int).toNat ((wrap64 ((ji24) + 1)) : Int).toNat).size + x7_2.size ≤ 9223372036854775807
                          · rw [if_pos c28] at H
                            have c28b0 := eq_true c28
                            have c28b1 : decide (((⟨#[48, 49, 50, 51, 52, 53, 54, 55, 56, 57, 97, 98, 99, 100, 101, 102]⟩ : ByteArray).extract ((ji24) : Int).toNat ((wrap64 ((ji24) + 1)) : Int).toNat).size + x7_2.size ≤ 9223372036854775807) = true := decide_eq_true c28
                            try have c28b2 : (9223372036854775807 < ((⟨#[48, 49, 50, 51, 52, 53, 54, 55, 56, 57, 97, 98, 99, 100, 101, 102]⟩ : ByteArray).extract ((ji24) : Int).toNat ((wrap64 ((ji24) + 1)) : Int).toNat).size + x7_2.size) = False := eq_false (Nat.not_lt.2 c28)
                            have H' := Aside0.mk H
                            clear H
                            go_wp2
                            go_roundg k2
                            case measure => have := HK1.out; have := HK2.out; omega
                            case rel => exact ⟨(((⟨#[48, 49, 50, 51, 52, 53, 54, 55, 56, 57, 97, 98, 99, 100, 101, 102]⟩ : ByteArray).extract ((ji24) : Int).toNat ((wrap64 ((ji24) + 1)) : Int).toNat) ++ x7_2), (wrap64 (Int.tdiv x10_2 16)), (by first | rfl | (simp; done) | (simp only [← hji24] <;> (first | rfl | simp)) | (simp [*]; done) | (simp [isEmpty_ne]; done)), (by first | rfl | (simp; done) | (simp [*]; done) | (simp [isEmpty_ne]; done)), H', ⟨by have := HK1.out; have := HK2.out; omega⟩, ⟨by repeat (first | (with_reducible first | exact HB.out | apply below_alloc | apply pw_below_drewN | apply below_drew1) | exact HB.out)⟩⟩
                          · rw [if_neg c28] at H
                            exact absurd H (by simp)
                        · rw [if_neg c27] at H
                          exact absurd H (by simp)
                      · rw [if_neg c26] at H
                        exact absurd H (by simp)
                    · rw [if_neg c25] at H
                      exact absurd H (by simp)
                  · rw [if_neg c23] at H
                    have c23b0 : (x7_2.toList == ([] : List UInt8)) = false := beq_eq_false_iff_ne.mpr c23
                    have c23b1 : (x7_2.toList != ([] : List UInt8)) = true := bne_iff_ne.mpr c23
                    have H' := Aside0.mk H
                    clear H
                    go_wp2
                    go_loopg [8, 11] k2 (fun kq v8 v11 w' => ∃ (x8_3 : ByteArray) (x11_3 : Int), v8 = .string x8_3 ∧ v11 = .int .i64 x11_3 ∧ Aside0 (wisplaw02_TextForms.l2 kq a1 ji5 x6_1 x7_2 x8_3 x11_3 = some r) ∧ Aside0 (kq ≤ k2) ∧ Aside0 (Below w.heap.size w w'))
                    case atStart => exact ⟨((⟨#[]⟩ : ByteArray)), (ji5), (by first | rfl | (simp; done) | (simp [*]; done) | (simp [isEmpty_ne]; done)), (by first | rfl | (simp; done) | (simp only [← hji5] <;> (first | rfl | simp)) | (simp [*]; done) | (simp [isEmpty_ne]; done)), H', ⟨Nat.le_refl _⟩, ⟨by repeat (first | (with_reducible first | exact HB.out | apply below_alloc | apply pw_below_drewN | apply below_drew1) | exact HB.out)⟩⟩
                    case round =>
                      clear H'
                      try clear c1
                      try clear hcv1
                      try clear c2
                      try clear p2
                      try clear c4
                      try clear p6
                      try clear c7
                      try clear c7b0
                      try clear c8
                      try clear c8b0
                      try clear c8b1
                      try clear c8b2
                      try clear hcv11
                      try clear c12
                      try clear c12b0
                      try clear c12b1
                      try clear c13
                      try clear c13b0
                      try clear c13b1
                      try clear c13b2
                      try clear hcv16
                      try clear c17
                      try clear c17b0
                      try clear c19
                      try clear c19b0
                      try clear c19b1
                      try clear c20
                      try clear c20b0
                      try clear c20b1
                      try clear c21
                      try clear c21b0
                      try clear c21b1
                      try clear c22
                      try clear c22b0
                      try clear c22b1
                      try clear c22b2
                      try clear c23
                      try clear c23b0
                      try clear c23b1
                      try clear c25
                      try clear c25b0
                      try clear c25b1
                      try clear c26
                      try clear c26b0
                      try clear c26b1
                      try clear c27
                      try clear c27b0
                      try clear c27b1
                      try clear c28
                      try clear c28b0
                      try clear c28b1
                      try clear c28b2
                      try clear p2
                      try clear p6
                      obtain ⟨x8_3, x11_3, rfl, rfl, HA, HK3, HB⟩ := hrel
                      cases gk with
                      | zero => exact absurd HA.out (by simp [wisplaw02_TextForms.l2])
                      | succ k3 =>
                        have H := HA.out
                        clear HA
                        simp only [wisplaw02_TextForms.l2] at H
                        by_cases c29 : x11_3 > 0
                        · rw [if_pos c29] at H
                          have c29b0 : decide (0 < x11_3) = true := decide_eq_true c29
                          clear c29
                          obtain ⟨y256, hy256⟩ : ∃ y_ : List Int, y_ = (([(wrap64 (48 + (Int.tmod x11_3 2))) % 256] : List Int)) := ⟨_, rfl⟩
                          replace H : (if (strOfNums y256).size + x8_3.size ≤ 9223372036854775807 then (wisplaw02_TextForms.l2 k3 a1 ji5 x6_1 x7_2 ((strOfNums y256) ++ x8_3) (wrap64 (Int.tdiv x11_3 2))) else (none)) = some r := by first | (rw [hy256]; with_reducible exact H) | (have H2_ := (Option.bind_some _ _).symm.trans H; rw [hy256]; with_reducible exact H2_) | (have H2_ := (Option.bind_some _ _).symm.trans H; with_reducible exact H2_) | with_reducible exact H | (rw [hy256]; exact H) | exact H
                          have Ny256 := Aside0.mk hy256
                          clear hy256
                          by_cases c30 : (strOfNums y256).size + x8_3.size ≤ 9223372036854775807
                          · rw [if_pos c30] at H
                            have c30b0 := eq_true c30
                            have c30b1 : decide ((strOfNums y256).size + x8_3.size ≤ 9223372036854775807) = true := decide_eq_true c30
                            try have c30b2 : (9223372036854775807 < (strOfNums y256).size + x8_3.size) = False := eq_false (Nat.not_lt.2 c30)
                            have H' := Aside0.mk H
                            clear H
                            go_wp2_with (first | ((with_reducible refine gate_dst (N := 74) rfl ?_); refine Kd.R_lit (Kd.int .u8) _ 5 ?hg (N := 74) ?hd (xs := ([(wrap64 (48 + (Int.tmod x11_3 2))) % 256] : List Int)) (inner := [.int .u8 ((wrap64 (48 + (Int.tmod x11_3 2))) % 256)]) (ok := fun _ => True) (okp := fun _ => True) ?hr ?hp (fun _ hk => hk) trivial (Below.refl _ _) (Nat.le_refl _) (by simp) ?_; (case hd => rfl); (case hg => rfl); (case hr => first | (go_simp; done) | (go_simp; rfl)); (case hp => exact (Reps.one (show Kd.M (Kd.int .u8) _ _ _ ((wrap64 (48 + (Int.tmod x11_3 2))) % 256) [.int .u8 ((wrap64 (48 + (Int.tmod x11_3 2))) % 256)] from rfl) (Reps.none _ _))); intro v257 w31 ho32 hb hg_ hnew_; clear hg_ hnew_; (first | rw [← Ny256.out] at ho32 | (simp only [Int.reduceToNat] at ho32; rw [← Ny256.out] at ho32)); have n0_ := Aside0.mk (Kd.R_lower ho32 (below_size (by repeat (first | (with_reducible first | exact HB.out | apply below_alloc | apply pw_below_drewN | apply below_drew1) | exact HB.out)))); have n1_ := Aside0.mk (below_step (by repeat (first | (with_reducible first | exact HB.out | apply below_alloc | apply pw_below_drewN | apply below_drew1) | exact HB.out)) hb); clear HB; have HO258 := n0_; have HB := n1_; clear n0_ n1_; clear hb ho32; have hcv33 := own_string (P := Try.prog) Try.underlying75 Try.underlying5 Try.underlying9 (Kd.own_of_R HO258.out)))
                            go_roundg k3
                            case measure => have := HK1.out; have := HK2.out; have := HK3.out; omega
                            case rel => exact ⟨((strOfNums y256) ++ x8_3), (wrap64 (Int.tdiv x11_3 2)), (by first | rfl | (simp; done) | (simp [*]; done) | (simp [isEmpty_ne]; done)), (by first | rfl | (simp; done) | (simp [*]; done) | (simp [isEmpty_ne]; done)), H', ⟨by have := HK1.out; have := HK2.out; have := HK3.out; omega⟩, ⟨by repeat (first | (with_reducible first | exact HB.out | apply below_alloc | apply pw_below_drewN | apply below_drew1) | exact HB.out)⟩⟩
                          · rw [if_neg c30] at H
                            exact absurd H (by simp)
                        · rw [if_neg c29] at H
                          have c29b0 : decide (0 < x11_3) = false := decide_eq_false c29
                          clear c29
                          by_cases c34 : x8_3.toList = ([] : List UInt8)
                          · rw [if_pos c34] at H
                            have c34b0 : (x8_3.toList == ([] : List UInt8)) = true := beq_iff_eq.mpr c34
                            have c34b1 : (x8_3.toList != ([] : List UInt8)) = false := bne_eq_false_iff_eq.mpr c34
                            clear c34
                            obtain ⟨y259, hy259⟩ : ∃ y_ : List Int, y_ = (([(wrap64 (48 + (Int.tmod x11_3 2))) % 256] : List Int)) := ⟨_, rfl⟩
                            replace H : (if (strOfNums y259).size + x8_3.size ≤ 9223372036854775807 then (wisplaw02_TextForms.l2 k3 a1 ji5 x6_1 x7_2 ((strOfNums y259) ++ x8_3) (wrap64 (Int.tdiv x11_3 2))) else (none)) = some r := by first | (rw [hy259]; with_reducible exact H) | (have H2_ := (Option.bind_some _ _).symm.trans H; rw [hy259]; with_reducible exact H2_) | (have H2_ := (Option.bind_some _ _).symm.trans H; with_reducible exact H2_) | with_reducible exact H | (rw [hy259]; exact H) | exact H
                            have Ny259 := Aside0.mk hy259
                            clear hy259
                            by_cases c35 : (strOfNums y259).size + x8_3.size ≤ 9223372036854775807
                            · rw [if_pos c35] at H
                              have c35b0 := eq_true c35
                              have c35b1 : decide ((strOfNums y259).size + x8_3.size ≤ 9223372036854775807) = true := decide_eq_true c35
                              try have c35b2 : (9223372036854775807 < (strOfNums y259).size + x8_3.size) = False := eq_false (Nat.not_lt.2 c35)
                              have H' := Aside0.mk H
                              clear H
                              go_wp2_with (first | ((with_reducible refine gate_dst (N := 74) rfl ?_); refine Kd.R_lit (Kd.int .u8) _ 5 ?hg (N := 74) ?hd (xs := ([(wrap64 (48 + (Int.tmod x11_3 2))) % 256] : List Int)) (inner := [.int .u8 ((wrap64 (48 + (Int.tmod x11_3 2))) % 256)]) (ok := fun _ => True) (okp := fun _ => True) ?hr ?hp (fun _ hk => hk) trivial (Below.refl _ _) (Nat.le_refl _) (by simp) ?_; (case hd => rfl); (case hg => rfl); (case hr => first | (go_simp; done) | (go_simp; rfl)); (case hp => exact (Reps.one (show Kd.M (Kd.int .u8) _ _ _ ((wrap64 (48 + (Int.tmod x11_3 2))) % 256) [.int .u8 ((wrap64 (48 + (Int.tmod x11_3 2))) % 256)] from rfl) (Reps.none _ _))); intro v260 w36 ho37 hb hg_ hnew_; clear hg_ hnew_; (first | rw [← Ny259.out] at ho37 | (simp only [Int.reduceToNat] at ho37; rw [← Ny259.out] at ho37)); have n0_ := Aside0.mk (Kd.R_lower ho37 (below_size (by repeat (first | (with_reducible first | exact HB.out | apply below_alloc | apply pw_below_drewN | apply below_drew1) | exact HB.out)))); have n1_ := Aside0.mk (below_step (by repeat (first | (with_reducible first | exact HB.out | apply below_alloc | apply pw_below_drewN | apply below_drew1) | exact HB.out)) hb); clear HB; have HO261 := n0_; have HB := n1_; clear n0_ n1_; clear hb ho37; have hcv38 := own_string (P := Try.prog) Try.underlying75 Try.underlying5 Try.underlying9 (Kd.own_of_R HO261.out)))
                              go_roundg k3
                              case measure => have := HK1.out; have := HK2.out; have := HK3.out; omega
                              case rel => exact ⟨((strOfNums y259) ++ x8_3), (wrap64 (Int.tdiv x11_3 2)), (by first | rfl | (simp; done) | (simp [*]; done) | (simp [isEmpty_ne]; done)), (by first | rfl | (simp; done) | (simp [*]; done) | (simp [isEmpty_ne]; done)), H', ⟨by have := HK1.out; have := HK2.out; have := HK3.out; omega⟩, ⟨by repeat (first | (with_reducible first | exact HB.out | apply below_alloc | apply pw_below_drewN | apply below_drew1) | exact HB.out)⟩⟩
                            · rw [if_neg c35] at H
                              exact absurd H (by simp)
                          · rw [if_neg c34] at H
                            have c34b0 : (x8_3.toList == ([] : List UInt8)) = false := beq_eq_false_iff_ne.mpr c34
                            have c34b1 : (x8_3.toList != ([] : List UInt8)) = true := bne_iff_ne.mpr c34
                            have HC39 := Aside0.mk H
                            clear H
                            go_upto_if 81 with (fail)
                            go_cut [12, 13] (fun v12 v13 wc => ∃ (kq : Nat) (x12_38 : Int) (x13_38 : Int), v12 = .int .u16 x12_38 ∧ v13 = .int .i64 x13_38 ∧ Aside0 (wisplaw02_TextForms.j3 kq a1 ji5 x6_1 x7_2 x8_3 x12_38 x13_38 = some r) ∧ Aside0 (kq ≤ k3) ∧ Aside0 (Below w.heap.size w wc))
                            case first =>
                              have H := HC39.out
                              clear HC39
                              by_cases c40 : ji5 > 65535
                              · rw [if_pos c40] at H
                                have c40b0 : decide (65535 < ji5) = true := decide_eq_true c40
                                clear c40
                                (first | rw [c40b0] | (simp only [i64_w, i32_w]; rw [c40b0]) | skip)
                                have H' := Aside0.mk H
                                clear H
                                go_wp2
                                go_meet
                                case rel => exact ⟨_, (0), (21), (by first | rfl | (simp; done) | (simp [*]; done) | (simp [isEmpty_ne]; done)), (by first | rfl | (simp; done) | (simp [*]; done) | (simp [isEmpty_ne]; done)), H', ⟨by have := HK1.out; have := HK2.out; have := HK3.out; first | omega | exact Nat.le_refl _⟩, ⟨by repeat (first | (with_reducible first | exact HB.out | apply below_alloc | apply pw_below_drewN | apply below_drew1) | exact HB.out)⟩⟩
                              · rw [if_neg c40] at H
                                have c40b0 : decide (65535 < ji5) = false := decide_eq_false c40
                                clear c40
                                (first | rw [c40b0] | (simp only [i64_w, i32_w]; rw [c40b0]) | skip)
                                have H' := Aside0.mk H
                                clear H
                                go_wp2
                                go_meet
                                case rel => exact ⟨_, (IntKind.u16.wrap (ji5)), (0), (by first | rfl | (simp; done) | (simp only [← hji5] <;> (first | rfl | simp)) | (simp [*]; done) | (simp [isEmpty_ne]; done)), (by first | rfl | (simp; done) | (simp [*]; done) | (simp [isEmpty_ne]; done)), H', ⟨by have := HK1.out; have := HK2.out; have := HK3.out; first | omega | exact Nat.le_refl _⟩, ⟨by repeat (first | (with_reducible first | exact HB.out | apply below_alloc | apply pw_below_drewN | apply below_drew1) | exact HB.out)⟩⟩
                            case rest =>
                              clear HC39
                              try clear c1
                              try clear hcv1
                              try clear c2
                              try clear p2
                              try clear c3
                              try clear hcv3
                              try clear c4
                              try clear p6
                              try clear c7
                              try clear c7b0
                              try clear c8
                              try clear c8b0
                              try clear c8b1
                              try clear c8b2
                              try clear hcv11
                              try clear c12
                              try clear c12b0
                              try clear c12b1
                              try clear c13
                              try clear c13b0
                              try clear c13b1
                              try clear c13b2
                              try clear hcv16
                              try clear c17
                              try clear c17b0
                              try clear c19
                              try clear c19b0
                              try clear c19b1
                              try clear c20
                              try clear c20b0
                              try clear c20b1
                              try clear c21
                              try clear c21b0
                              try clear c21b1
                              try clear c22
                              try clear c22b0
                              try clear c22b1
                              try clear c22b2
                              try clear c23
                              try clear c23b0
                              try clear c23b1
                              try clear c25
                              try clear c25b0
                              try clear c25b1
                              try clear c26
                              try clear c26b0
                              try clear c26b1
                              try clear c27
                              try clear c27b0
                              try clear c27b1
                              try clear c28
                              try clear c28b0
                              try clear c28b1
                              try clear c28b2
                              try clear c29
                              try clear c29b0
                              try clear c30
                              try clear c30b0
                              try clear c30b1
                              try clear c30b2
                              try clear hcv33
                              try clear c34
                              try clear c34b0
                              try clear c34b1
                              try clear c35
                              try clear c35b0
                              try clear c35b1
                              try clear c35b2
                              try clear hcv38
                              try clear c40
                              try clear c40b0
                              try clear p2
                              try clear p6
                              obtain ⟨kq, x12_38, x13_38, rfl, rfl, HA, HJ38, HB⟩ := hcut
                              cases kq with
                              | zero => exact absurd HA.out (by simp [wisplaw02_TextForms.j3])
                              | succ kj38 =>
                                have H := HA.out
                                clear HA
                                simp only [wisplaw02_TextForms.j3] at H
                                have HC41 := Aside0.mk H
                                clear H
                                go_upto_region 21 with (fail)
                                go_cut [102] (fun v102 wc => ∃ (kq : Nat) (x102_40 : Bool), v102 = .bool x102_40 ∧ Aside0 (wisplaw02_TextForms.j4 kq a1 ji5 x6_1 x7_2 x8_3 x102_40 = some r) ∧ Aside0 (kq ≤ kj38) ∧ Aside0 (Below w.heap.size w wc))
                                case first =>
                                  have H := HC41.out
                                  clear HC41
                                  replace H := Option.bind_eq_some_iff.mp H
                                  obtain ⟨t262, A420, H⟩ := H
                                  replace H : (if t262 = true then (if 1 + x7_2.size ≤ 9223372036854775807 then ((wisplaw02_told.f kj38 ((⟨#[36]⟩ : ByteArray) ++ x7_2) x12_38 x13_38).bind fun t263 => (if t263 = true then (if 1 + x8_3.size ≤ 9223372036854775807 then ((wisplaw02_told.f kj38 ((⟨#[37]⟩ : ByteArray) ++ x8_3) x12_38 x13_38).bind fun t264 => (wisplaw02_TextForms.j4 kj38 a1 ji5 x6_1 x7_2 x8_3 (!t264))) else (none)) else (wisplaw02_TextForms.j4 kj38 a1 ji5 x6_1 x7_2 x8_3 true))) else (none)) else (wisplaw02_TextForms.j4 kj38 a1 ji5 x6_1 x7_2 x8_3 true)) = some r := H
                                  have A42 := Aside0.mk A420
                                  clear A420
                                  by_cases c43 : t262 = true
                                  · subst c43
                                    have H1 : (if 1 + x7_2.size ≤ 9223372036854775807 then ((wisplaw02_told.f kj38 ((⟨#[36]⟩ : ByteArray) ++ x7_2) x12_38 x13_38).bind fun t263 => (if t263 = true then (if 1 + x8_3.size ≤ 9223372036854775807 then ((wisplaw02_told.f kj38 ((⟨#[37]⟩ : ByteArray) ++ x8_3) x12_38 x13_38).bind fun t264 => (wisplaw02_TextForms.j4 kj38 a1 ji5 x6_1 x7_2 x8_3 (!t264))) else (none)) else (wisplaw02_TextForms.j4 kj38 a1 ji5 x6_1 x7_2 x8_3 true))) else (none)) = some r := by rw [if_pos rfl] at H; exact H
                                    clear H
                                    have H := H1
                                    clear H1
                                    by_cases c44 : 1 + x7_2.size ≤ 9223372036854775807
                                    · rw [if_pos c44] at H
                                      have c44b0 := eq_true c44
                                      have c44b1 : decide (1 + x7_2.size ≤ 9223372036854775807) = true := decide_eq_true c44
                                      try have c44b2 : (9223372036854775807 < 1 + x7_2.size) = False := eq_false (Nat.not_lt.2 c44)
                                      replace H := Option.bind_eq_some_iff.mp H
                                      obtain ⟨t263, A450, H⟩ := H
                                      replace H : (if t263 = true then (if 1 + x8_3.size ≤ 9223372036854775807 then ((wisplaw02_told.f kj38 ((⟨#[37]⟩ : ByteArray) ++ x8_3) x12_38 x13_38).bind fun t264 => (wisplaw02_TextForms.j4 kj38 a1 ji5 x6_1 x7_2 x8_3 (!t264))) else (none)) else (wisplaw02_TextForms.j4 kj38 a1 ji5 x6_1 x7_2 x8_3 true)) = some r := H
                                      have A45 := Aside0.mk A450
                                      clear A450
                                      by_cases c46 : t263 = true
                                      · subst c46
                                        have H1 : (if 1 + x8_3.size ≤ 9223372036854775807 then ((wisplaw02_told.f kj38 ((⟨#[37]⟩ : ByteArray) ++ x8_3) x12_38 x13_38).bind fun t264 => (wisplaw02_TextForms.j4 kj38 a1 ji5 x6_1 x7_2 x8_3 (!t264))) else (none)) = some r := by rw [if_pos rfl] at H; exact H
                                        clear H
                                        have H := H1
                                        clear H1
                                        by_cases c47 : 1 + x8_3.size ≤ 9223372036854775807
                                        · rw [if_pos c47] at H
                                          have c47b0 := eq_true c47
                                          have c47b1 : decide (1 + x8_3.size ≤ 9223372036854775807) = true := decide_eq_true c47
                                          try have c47b2 : (9223372036854775807 < 1 + x8_3.size) = False := eq_false (Nat.not_lt.2 c47)
                                          replace H := Option.bind_eq_some_iff.mp H
                                          obtain ⟨t264, A480, H⟩ := H
                                          replace H : (wisplaw02_TextForms.j4 kj38 a1 ji5 x6_1 x7_2 x8_3 (!t264)) = some r := H
                                          have A48 := Aside0.mk A480
                                          clear A480
                                          have H' := Aside0.mk H
                                          clear H
                                          go_wp2_with (first | ((with_reducible refine gate_callee (f := 24) rfl ?_); refine goesL_ (some 85) rfl rfl Try.func24 (by kernel_rfl) rfl #[.string x6_1, .int .u16 x12_38, .int .i64 x13_38] rfl (by (try simp only [List.map_toArray, List.map_cons, List.map_nil]); first | done | rfl | (simp only [List.length_drop, List.length_take]; rfl)) ?_; (with_reducible refine (wisplaw02_told.calls kj38 x6_1 x12_38 x13_38 true _ A42.out).mono ?_); rintro e w49 ⟨rfl, hb⟩; refine ⟨_, rfl, ?_⟩; have n0_ := Aside0.mk (below_step (by repeat (first | (with_reducible first | exact HB.out | apply below_alloc | apply pw_below_drewN | apply below_drew1) | exact HB.out)) hb); clear HB; have HB := n0_; clear n0_; (try clear hb); (try clear hb2); (try clear hk); (try clear hi)) | (go_at_call 24; (with_reducible refine (wisplaw02_told.calls kj38 ((⟨#[36]⟩ : ByteArray) ++ x7_2) x12_38 x13_38 true _ A45.out).mono ?_); rintro e w50 ⟨rfl, hb⟩; have n0_ := Aside0.mk (below_step (by repeat (first | (with_reducible first | exact HB.out | apply below_alloc | apply pw_below_drewN | apply below_drew1) | exact HB.out)) hb); clear HB; have HB := n0_; clear n0_; (try clear hb); (try clear hb2); (try clear hk); (try clear hi)) | (go_at_call 24; (with_reducible refine (wisplaw02_told.calls kj38 ((⟨#[37]⟩ : ByteArray) ++ x8_3) x12_38 x13_38 t264 _ A48.out).mono ?_); rintro e w51 ⟨rfl, hb⟩; have n0_ := Aside0.mk (below_step (by repeat (first | (with_reducible first | exact HB.out | apply below_alloc | apply pw_below_drewN | apply below_drew1) | exact HB.out)) hb); clear HB; have HB := n0_; clear n0_; (try clear hb); (try clear hb2); (try clear hk); (try clear hi)))
                                          go_meet
                                          case rel => exact ⟨_, (!t264), (by first | rfl | (simp; done) | (simp [*]; done) | (simp [isEmpty_ne]; done)), H', ⟨by have := HK1.out; have := HK2.out; have := HK3.out; have := HJ38.out; first | omega | exact Nat.le_refl _⟩, ⟨by repeat (first | (with_reducible first | exact HB.out | apply below_alloc | apply pw_below_drewN | apply below_drew1) | exact HB.out)⟩⟩
                                        · rw [if_neg c47] at H
                                          exact absurd H (by simp)
                                      · replace c46 := Bool.eq_false_iff.mpr c46
                                        subst c46
                                        have H1 : (wisplaw02_TextForms.j4 kj38 a1 ji5 x6_1 x7_2 x8_3 true) = some r := by rw [if_neg (show ¬ (false = true) by decide)] at H; exact H
                                        clear H
                                        have H := H1
                                        clear H1
                                        have H' := Aside0.mk H
                                        clear H
                                        go_wp2_with (first | ((with_reducible refine gate_callee (f := 24) rfl ?_); refine goesL_ (some 85) rfl rfl Try.func24 (by kernel_rfl) rfl #[.string x6_1, .int .u16 x12_38, .int .i64 x13_38] rfl (by (try simp only [List.map_toArray, List.map_cons, List.map_nil]); first | done | rfl | (simp only [List.length_drop, List.length_take]; rfl)) ?_; (with_reducible refine (wisplaw02_told.calls kj38 x6_1 x12_38 x13_38 true _ A42.out).mono ?_); rintro e w52 ⟨rfl, hb⟩; refine ⟨_, rfl, ?_⟩; have n0_ := Aside0.mk (below_step (by repeat (first | (with_reducible first | exact HB.out | apply below_alloc | apply pw_below_drewN | apply below_drew1) | exact HB.out)) hb); clear HB; have HB := n0_; clear n0_; (try clear hb); (try clear hb2); (try clear hk); (try clear hi)) | (go_at_call 24; (with_reducible refine (wisplaw02_told.calls kj38 ((⟨#[36]⟩ : ByteArray) ++ x7_2) x12_38 x13_38 false _ A45.out).mono ?_); rintro e w53 ⟨rfl, hb⟩; have n0_ := Aside0.mk (below_step (by repeat (first | (with_reducible first | exact HB.out | apply below_alloc | apply pw_below_drewN | apply below_drew1) | exact HB.out)) hb); clear HB; have HB := n0_; clear n0_; (try clear hb); (try clear hb2); (try clear hk); (try clear hi)))
                                        go_meet
                                        case rel => exact ⟨_, (true), (by first | rfl | (simp; done) | (simp [*]; done) | (simp [isEmpty_ne]; done)), H', ⟨by have := HK1.out; have := HK2.out; have := HK3.out; have := HJ38.out; first | omega | exact Nat.le_refl _⟩, ⟨by repeat (first | (with_reducible first | exact HB.out | apply below_alloc | apply pw_below_drewN | apply below_drew1) | exact HB.out)⟩⟩
                                    · rw [if_neg c44] at H
                                      exact absurd H (by simp)
                                  · replace c43 := Bool.eq_false_iff.mpr c43
                                    subst c43
                                    have H1 : (wisplaw02_TextForms.j4 kj38 a1 ji5 x6_1 x7_2 x8_3 true) = some r := by rw [if_neg (show ¬ (false = true) by decide)] at H; exact H
                                    clear H
                                    have H := H1
                                    clear H1
                                    have H' := Aside0.mk H
                                    clear H
                                    go_wp2_with (first | ((with_reducible refine gate_callee (f := 24) rfl ?_); refine goesL_ (some 85) rfl rfl Try.func24 (by kernel_rfl) rfl #[.string x6_1, .int .u16 x12_38, .int .i64 x13_38] rfl (by (try simp only [List.map_toArray, List.map_cons, List.map_nil]); first | done | rfl | (simp only [List.length_drop, List.length_take]; rfl)) ?_; (with_reducible refine (wisplaw02_told.calls kj38 x6_1 x12_38 x13_38 false _ A42.out).mono ?_); rintro e w54 ⟨rfl, hb⟩; refine ⟨_, rfl, ?_⟩; have n0_ := Aside0.mk (below_step (by repeat (first | (with_reducible first | exact HB.out | apply below_alloc | apply pw_below_drewN | apply below_drew1) | exact HB.out)) hb); clear HB; have HB := n0_; clear n0_; (try clear hb); (try clear hb2); (try clear hk); (try clear hi)))
                                    go_meet
                                    case rel => exact ⟨_, (true), (by first | rfl | (simp; done) | (simp [*]; done) | (simp [isEmpty_ne]; done)), H', ⟨by have := HK1.out; have := HK2.out; have := HK3.out; have := HJ38.out; first | omega | exact Nat.le_refl _⟩, ⟨by repeat (first | (with_reducible first | exact HB.out | apply below_alloc | apply pw_below_drewN | apply below_drew1) | exact HB.out)⟩⟩
                                case rest =>
                                  clear HC41
                                  try clear c1
                                  try clear hcv1
                                  try clear c2
                                  try clear p2
                                  try clear c3
                                  try clear hcv3
                                  try clear c4
                                  try clear p6
                                  try clear c7
                                  try clear c7b0
                                  try clear c8
                                  try clear c8b0
                                  try clear c8b1
                                  try clear c8b2
                                  try clear hcv11
                                  try clear c12
                                  try clear c12b0
                                  try clear c12b1
                                  try clear c13
                                  try clear c13b0
                                  try clear c13b1
                                  try clear c13b2
                                  try clear hcv16
                                  try clear c17
                                  try clear c17b0
                                  try clear c19
                                  try clear c19b0
                                  try clear c19b1
                                  try clear c20
                                  try clear c20b0
                                  try clear c20b1
                                  try clear c21
                                  try clear c21b0
                                  try clear c21b1
                                  try clear c22
                                  try clear c22b0
                                  try clear c22b1
                                  try clear c22b2
                                  try clear c23
                                  try clear c23b0
                                  try clear c23b1
                                  try clear c24
                                  try clear c25
                                  try clear c25b0
                                  try clear c25b1
                                  try clear c26
                                  try clear c26b0
                                  try clear c26b1
                                  try clear c27
                                  try clear c27b0
                                  try clear c27b1
                                  try clear c28
                                  try clear c28b0
                                  try clear c28b1
                                  try clear c28b2
                                  try clear c29
                                  try clear c29b0
                                  try clear c30
                                  try clear c30b0
                                  try clear c30b1
                                  try clear c30b2
                                  try clear hcv33
                                  try clear c34
                                  try clear c34b0
                                  try clear c34b1
                                  try clear c35
                                  try clear c35b0
                                  try clear c35b1
                                  try clear c35b2
                                  try clear hcv38
                                  try clear c40
                                  try clear c40b0
                                  try clear c43
                                  try clear c44
                                  try clear c44b0
                                  try clear c44b1
                                  try clear c44b2
                                  try clear c46
                                  try clear c47
                                  try clear c47b0
                                  try clear c47b1
                                  try clear c47b2
                                  try clear p2
                                  try clear p6
                                  obtain ⟨kq, x102_40, rfl, HA, HJ40, HB⟩ := hcut
                                  cases kq with
                                  | zero => exact absurd HA.out (by simp [wisplaw02_TextForms.j4])
                                  | succ kj40 =>
                                    have H := HA.out
                                    clear HA
                                    simp only [wisplaw02_TextForms.j4] at H
                                    by_cases c55 : x102_40 = true
                                    · subst c55
                                      have H1 : (some false) = some r := by rw [if_pos rfl] at H; exact H
                                      clear H
                                      have H := H1
                                      clear H1
                                      obtain rfl := Option.some.inj H
                                      go_wp2
                                      go_ret
                                      exact ⟨by first | rfl | (simp [errW_none, errW_some] <;> rfl) | (simp only [← hji5]; first | rfl | (simp [errW_none, errW_some] <;> rfl)) | (simp [*, errW_none, errW_some] <;> rfl), by repeat (first | (with_reducible first | exact HB.out | apply below_alloc | apply pw_below_drewN | apply below_drew1) | exact HB.out)⟩
                                    · replace c55 := Bool.eq_false_iff.mpr c55
                                      subst c55
                                      have H1 : (if ji5 ≤ 32768 then (if 1 + x6_1.size ≤ 9223372036854775807 then ((wisplaw02_told.f kj40 ((⟨#[45]⟩ : ByteArray) ++ x6_1) (IntKind.u16.wrap (-(IntKind.u16.wrap (ji5)))) 0).bind fun t265 => (if t265 = true then (wisplaw02_TextForms.j5 kj40 a1 x6_1 x7_2 x8_3) else (some false))) else (none)) else (wisplaw02_TextForms.j5 kj40 a1 x6_1 x7_2 x8_3)) = some r := by rw [if_neg (show ¬ (false = true) by decide)] at H; exact H
                                      clear H
                                      have H := H1
                                      clear H1
                                      have HC56 := Aside0.mk H
                                      clear H
                                      go_upto_if 104 with (fail)
                                      go_cut [] (fun wc => ∃ (kq : Nat), Aside0 (wisplaw02_TextForms.j5 kq a1 x6_1 x7_2 x8_3 = some r) ∧ Aside0 (kq ≤ kj40) ∧ Aside0 (Below w.heap.size w wc))
                                      case first =>
                                        have H := HC56.out
                                        clear HC56
                                        by_cases c57 : ji5 ≤ 32768
                                        · rw [if_pos c57] at H
                                          have c57b0 : decide (ji5 ≤ 32768) = true := decide_eq_true c57
                                          clear c57
                                          (first | rw [c57b0] | (simp only [i64_w, i32_w]; rw [c57b0]) | skip)
                                          by_cases c58 : 1 + x6_1.size ≤ 9223372036854775807
                                          · rw [if_pos c58] at H
                                            have c58b0 := eq_true c58
                                            have c58b1 : decide (1 + x6_1.size ≤ 9223372036854775807) = true := decide_eq_true c58
                                            try have c58b2 : (9223372036854775807 < 1 + x6_1.size) = False := eq_false (Nat.not_lt.2 c58)
                                            replace H := Option.bind_eq_some_iff.mp H
                                            obtain ⟨t265, A590, H⟩ := H
                                            replace H : (if t265 = true then (wisplaw02_TextForms.j5 kj40 a1 x6_1 x7_2 x8_3) else (some false)) = some r := H
                                            have A59 := Aside0.mk A590
                                            clear A590
                                            by_cases c60 : t265 = true
                                            · subst c60
                                              have H1 : (wisplaw02_TextForms.j5 kj40 a1 x6_1 x7_2 x8_3) = some r := by rw [if_pos rfl] at H; exact H
                                              clear H
                                              have H := H1
                                              clear H1
                                              have H' := Aside0.mk H
                                              clear H
                                              go_wp2_with (first | ((with_reducible refine gate_callee (f := 24) rfl ?_); refine goesL_ (some 110) rfl rfl Try.func24 (by kernel_rfl) rfl #[.string ((⟨#[45]⟩ : ByteArray) ++ x6_1), .int .u16 (IntKind.u16.wrap (-(IntKind.u16.wrap (ji5)))), .int .i64 0] rfl (by (try simp only [List.map_toArray, List.map_cons, List.map_nil]); first | done | (simp only [hji5]; rfl) | rfl | (simp only [List.length_drop, List.length_take]; rfl)) ?_; (with_reducible refine (wisplaw02_told.calls kj40 ((⟨#[45]⟩ : ByteArray) ++ x6_1) (IntKind.u16.wrap (-(IntKind.u16.wrap (ji5)))) 0 true _ A59.out).mono ?_); rintro e w61 ⟨rfl, hb⟩; refine ⟨_, rfl, ?_⟩; have n0_ := Aside0.mk (below_step (by repeat (first | (with_reducible first | exact HB.out | apply below_alloc | apply pw_below_drewN | apply below_drew1) | exact HB.out)) hb); clear HB; have HB := n0_; clear n0_; (try clear hb); (try clear hb2); (try clear hk); (try clear hi)))
                                              go_meet
                                              case rel => exact ⟨_, H', ⟨by have := HK1.out; have := HK2.out; have := HK3.out; have := HJ38.out; have := HJ40.out; first | omega | exact Nat.le_refl _⟩, ⟨by repeat (first | (with_reducible first | exact HB.out | apply below_alloc | apply pw_below_drewN | apply below_drew1) | exact HB.out)⟩⟩
                                            · replace c60 := Bool.eq_false_iff.mpr c60
                                              subst c60
                                              have H1 : (some false) = some r := by rw [if_neg (show ¬ (false = true) by decide)] at H; exact H
                                              clear H
                                              have H := H1
                                              clear H1
                                              obtain rfl := Option.some.inj H
                                              go_wp2_with (first | ((with_reducible refine gate_callee (f := 24) rfl ?_); refine goesL_ (some 110) rfl rfl Try.func24 (by kernel_rfl) rfl #[.string ((⟨#[45]⟩ : ByteArray) ++ x6_1), .int .u16 (IntKind.u16.wrap (-(IntKind.u16.wrap (ji5)))), .int .i64 0] rfl (by (try simp only [List.map_toArray, List.map_cons, List.map_nil]); first | done | (simp only [hji5]; rfl) | rfl | (simp only [List.length_drop, List.length_take]; rfl)) ?_; (with_reducible refine (wisplaw02_told.calls kj40 ((⟨#[45]⟩ : ByteArray) ++ x6_1) (IntKind.u16.wrap (-(IntKind.u16.wrap (ji5)))) 0 false _ A59.out).mono ?_); rintro e w62 ⟨rfl, hb⟩; refine ⟨_, rfl, ?_⟩; have n0_ := Aside0.mk (below_step (by repeat (first | (with_reducible first | exact HB.out | apply below_alloc | apply pw_below_drewN | apply below_drew1) | exact HB.out)) hb); clear HB; have HB := n0_; clear n0_; (try clear hb); (try clear hb2); (try clear hk); (try clear hi)))
                                              go_ret
                                              exact ⟨by first | rfl | (simp [errW_none, errW_some] <;> rfl) | (simp only [← hji5]; first | rfl | (simp [errW_none, errW_some] <;> rfl)) | (simp [*, errW_none, errW_some] <;> rfl), by repeat (first | (with_reducible first | exact HB.out | apply below_alloc | apply pw_below_drewN | apply below_drew1) | exact HB.out)⟩
                                          · rw [if_neg c58] at H
                                            exact absurd H (by simp)
                                        · rw [if_neg c57] at H
                                          have c57b0 : decide (ji5 ≤ 32768) = false := decide_eq_false c57
                                          clear c57
                                          (first | rw [c57b0] | (simp only [i64_w, i32_w]; rw [c57b0]) | skip)
                                          have H' := Aside0.mk H
                                          clear H
                                          go_wp2
                                          go_meet
                                          case rel => exact ⟨_, H', ⟨by have := HK1.out; have := HK2.out; have := HK3.out; have := HJ38.out; have := HJ40.out; first | omega | exact Nat.le_refl _⟩, ⟨by repeat (first | (with_reducible first | exact HB.out | apply below_alloc | apply pw_below_drewN | apply below_drew1) | exact HB.out)⟩⟩
                                      case rest =>
                                        clear HC56
                                        try clear c1
                                        try clear hcv1
                                        try clear c2
                                        try clear p2
                                        try clear c3
                                        try clear hcv3
                                        try clear c4
                                        try clear c5
                                        try clear c6
                                        try clear p6
                                        try clear c7
                                        try clear c7b0
                                        try clear c8
                                        try clear c8b0
                                        try clear c8b1
                                        try clear c8b2
                                        try clear hcv11
                                        try clear c12
                                        try clear c12b0
                                        try clear c12b1
                                        try clear c13
                                        try clear c13b0
                                        try clear c13b1
                                        try clear c13b2
                                        try clear hcv16
                                        try clear c17
                                        try clear c17b0
                                        try clear c19
                                        try clear c19b0
                                        try clear c19b1
                                        try clear c20
                                        try clear c20b0
                                        try clear c20b1
                                        try clear c21
                                        try clear c21b0
                                        try clear c21b1
                                        try clear c22
                                        try clear c22b0
                                        try clear c22b1
                                        try clear c22b2
                                        try clear c23
                                        try clear c23b0
                                        try clear c23b1
                                        try clear c24
                                        try clear c25
                                        try clear c25b0
                                        try clear c25b1
                                        try clear c26
                                        try clear c26b0
                                        try clear c26b1
                                        try clear c27
                                        try clear c27b0
                                        try clear c27b1
                                        try clear c28
                                        try clear c28b0
                                        try clear c28b1
                                        try clear c28b2
                                        try clear c29
                                        try clear c29b0
                                        try clear c30
                                        try clear c30b0
                                        try clear c30b1
                                        try clear c30b2
                                        try clear hcv33
                                        try clear c34
                                        try clear c34b0
                                        try clear c34b1
                                        try clear c35
                                        try clear c35b0
                                        try clear c35b1
                                        try clear c35b2
                                        try clear hcv38
                                        try clear c40
                                        try clear c40b0
                                        try clear c43
                                        try clear c44
                                        try clear c44b0
                                        try clear c44b1
                                        try clear c44b2
                                        try clear c46
                                        try clear c47
                                        try clear c47b0
                                        try clear c47b1
                                        try clear c47b2
                                        try clear c55
                                        try clear c57
                                        try clear c57b0
                                        try clear c58
                                        try clear c58b0
                                        try clear c58b1
                                        try clear c58b2
                                        try clear c60
                                        try clear p2
                                        try clear p6
                                        obtain ⟨kq, HA, HJ55, HB⟩ := hcut
                                        cases kq with
                                        | zero => exact absurd HA.out (by simp [wisplaw02_TextForms.j5])
                                        | succ kj55 =>
                                          have H := HA.out
                                          clear HA
                                          simp only [wisplaw02_TextForms.j5] at H
                                          have HC63 := Aside0.mk H
                                          clear H
                                          go_upto_region 27 with (fail)
                                          go_cut [126] (fun v126 wc => ∃ (kq : Nat) (x126_62 : Bool), v126 = .bool x126_62 ∧ Aside0 (wisplaw02_TextForms.j6 kq a1 x6_1 x7_2 x8_3 x126_62 = some r) ∧ Aside0 (kq ≤ kj55) ∧ Aside0 (Below w.heap.size w wc))
                                          case first =>
                                            have H := HC63.out
                                            clear HC63
                                            by_cases c64 : a1 ≥ 48
                                            · rw [if_pos c64] at H
                                              have c64b0 : decide (48 ≤ a1) = true := decide_eq_true c64
                                              clear c64
                                              (first | rw [c64b0] | (simp only [i64_w, i32_w]; rw [c64b0]) | skip)
                                              by_cases c65 : a1 ≤ 57
                                              · rw [if_pos c65] at H
                                                have c65b0 : decide (a1 ≤ 57) = true := decide_eq_true c65
                                                clear c65
                                                have H' := Aside0.mk H
                                                clear H
                                                go_wp2
                                                go_meet
                                                case rel => exact ⟨_, (true), (by first | rfl | (simp; done) | (simp [*]; done) | (simp [isEmpty_ne]; done)), H', ⟨by have := HK1.out; have := HK2.out; have := HK3.out; have := HJ38.out; have := HJ40.out; have := HJ55.out; first | omega | exact Nat.le_refl _⟩, ⟨by repeat (first | (with_reducible first | exact HB.out | apply below_alloc | apply pw_below_drewN | apply below_drew1) | exact HB.out)⟩⟩
                                              · rw [if_neg c65] at H
                                                have c65b0 : decide (a1 ≤ 57) = false := decide_eq_false c65
                                                clear c65
                                                by_cases c66 : a1 ≥ 97
                                                · rw [if_pos c66] at H
                                                  have c66b0 : decide (97 ≤ a1) = true := decide_eq_true c66
                                                  clear c66
                                                  have H' := Aside0.mk H
                                                  clear H
                                                  go_wp2
                                                  go_meet
                                                  case rel => exact ⟨_, (decide (a1 ≤ 102)), (by first | rfl | (simp; done) | (simp [*]; done) | (simp [isEmpty_ne]; done)), H', ⟨by have := HK1.out; have := HK2.out; have := HK3.out; have := HJ38.out; have := HJ40.out; have := HJ55.out; first | omega | exact Nat.le_refl _⟩, ⟨by repeat (first | (with_reducible first | exact HB.out | apply below_alloc | apply pw_below_drewN | apply below_drew1) | exact HB.out)⟩⟩
                                                · rw [if_neg c66] at H
                                                  have c66b0 : decide (97 ≤ a1) = false := decide_eq_false c66
                                                  clear c66
                                                  have H' := Aside0.mk H
                                                  clear H
                                                  go_wp2
                                                  go_meet
                                                  case rel => exact ⟨_, (false), (by first | rfl | (simp; done) | (simp [*]; done) | (simp [isEmpty_ne]; done)), H', ⟨by have := HK1.out; have := HK2.out; have := HK3.out; have := HJ38.out; have := HJ40.out; have := HJ55.out; first | omega | exact Nat.le_refl _⟩, ⟨by repeat (first | (with_reducible first | exact HB.out | apply below_alloc | apply pw_below_drewN | apply below_drew1) | exact HB.out)⟩⟩
                                            · rw [if_neg c64] at H
                                              have c64b0 : decide (48 ≤ a1) = false := decide_eq_false c64
                                              clear c64
                                              (first | rw [c64b0] | (simp only [i64_w, i32_w]; rw [c64b0]) | skip)
                                              by_cases c67 : a1 ≥ 97
                                              · rw [if_pos c67] at H
                                                have c67b0 : decide (97 ≤ a1) = true := decide_eq_true c67
                                                clear c67
                                                have H' := Aside0.mk H
                                                clear H
                                                go_wp2
                                                go_meet
                                                case rel => exact ⟨_, (decide (a1 ≤ 102)), (by first | rfl | (simp; done) | (simp [*]; done) | (simp [isEmpty_ne]; done)), H', ⟨by have := HK1.out; have := HK2.out; have := HK3.out; have := HJ38.out; have := HJ40.out; have := HJ55.out; first | omega | exact Nat.le_refl _⟩, ⟨by repeat (first | (with_reducible first | exact HB.out | apply below_alloc | apply pw_below_drewN | apply below_drew1) | exact HB.out)⟩⟩
                                              · rw [if_neg c67] at H
                                                have c67b0 : decide (97 ≤ a1) = false := decide_eq_false c67
                                                clear c67
                                                have H' := Aside0.mk H
                                                clear H
                                                go_wp2
                                                go_meet
                                                case rel => exact ⟨_, (false), (by first | rfl | (simp; done) | (simp [*]; done) | (simp [isEmpty_ne]; done)), H', ⟨by have := HK1.out; have := HK2.out; have := HK3.out; have := HJ38.out; have := HJ40.out; have := HJ55.out; first | omega | exact Nat.le_refl _⟩, ⟨by repeat (first | (with_reducible first | exact HB.out | apply below_alloc | apply pw_below_drewN | apply below_drew1) | exact HB.out)⟩⟩
                                          case rest =>
                                            clear HC63
                                            try clear c1
                                            try clear hcv1
                                            try clear c2
                                            try clear p2
                                            try clear c3
                                            try clear hcv3
                                            try clear c4
                                            try clear c5
                                            try clear c6
                                            try clear p6
                                            try clear c7
                                            try clear c7b0
                                            try clear c8
                                            try clear c8b0
                                            try clear c8b1
                                            try clear c8b2
                                            try clear hcv11
                                            try clear c12
                                            try clear c12b0
                                            try clear c12b1
                                            try clear c13
                                            try clear c13b0
                                            try clear c13b1
                                            try clear c13b2
                                            try clear hcv16
                                            try clear c17
                                            try clear c17b0
                                            try clear c19
                                            try clear c19b0
                                            try clear c19b1
                                            try clear c20
                                            try clear c20b0
                                            try clear c20b1
                                            try clear c21
                                            try clear c21b0
                                            try clear c21b1
                                            try clear c22
                                            try clear c22b0
                                            try clear c22b1
                                            try clear c22b2
                                            try clear c23
                                            try clear c23b0
                                            try clear c23b1
                                            try clear c24
                                            try clear c25
                                            try clear c25b0
                                            try clear c25b1
                                            try clear c26
                                            try clear c26b0
                                            try clear c26b1
                                            try clear c27
                                            try clear c27b0
                                            try clear c27b1
                                            try clear c28
                                            try clear c28b0
                                            try clear c28b1
                                            try clear c28b2
                                            try clear c29
                                            try clear c29b0
                                            try clear c30
                                            try clear c30b0
                                            try clear c30b1
                                            try clear c30b2
                                            try clear hcv33
                                            try clear c34
                                            try clear c34b0
                                            try clear c34b1
                                            try clear c35
                                            try clear c35b0
                                            try clear c35b1
                                            try clear c35b2
                                            try clear hcv38
                                            try clear c40
                                            try clear c40b0
                                            try clear c43
                                            try clear c44
                                            try clear c44b0
                                            try clear c44b1
                                            try clear c44b2
                                            try clear c46
                                            try clear c47
                                            try clear c47b0
                                            try clear c47b1
                                            try clear c47b2
                                            try clear c55
                                            try clear c57
                                            try clear c57b0
                                            try clear c58
                                            try clear c58b0
                                            try clear c58b1
                                            try clear c58b2
                                            try clear c60
                                            try clear c64
                                            try clear c64b0
                                            try clear p64
                                            try clear c65
                                            try clear c65b0
                                            try clear c66
                                            try clear c66b0
                                            try clear c67
                                            try clear c67b0
                                            try clear p2
                                            try clear p6
                                            obtain ⟨kq, x126_62, rfl, HA, HJ62, HB⟩ := hcut
                                            cases kq with
                                            | zero => exact absurd HA.out (by simp [wisplaw02_TextForms.j6])
                                            | succ kj62 =>
                                              have H := HA.out
                                              clear HA
                                              simp only [wisplaw02_TextForms.j6] at H
                                              by_cases c68 : x126_62 = true
                                              · subst c68
                                                have H1 : (some true) = some r := by rw [if_pos rfl] at H; exact H
                                                clear H
                                                have H := H1
                                                clear H1
                                                obtain rfl := Option.some.inj H
                                                go_wp2
                                                go_ret
                                                exact ⟨by first | rfl | (simp [errW_none, errW_some] <;> rfl) | (simp only [← hji5]; first | rfl | (simp [errW_none, errW_some] <;> rfl)) | (simp [*, errW_none, errW_some] <;> rfl), by repeat (first | (with_reducible first | exact HB.out | apply below_alloc | apply pw_below_drewN | apply below_drew1) | exact HB.out)⟩
                                              · replace c68 := Bool.eq_false_iff.mpr c68
                                                subst c68
                                                have H1 : ((some (([a1] : List Int) : List Int)).bind fun y266 => (if x6_1.size + (strOfNums y266).size ≤ 9223372036854775807 then ((wisplaw02_told.f kj62 (x6_1 ++ (strOfNums y266)) 0 20).bind fun t269 => (if t269 = true then (if 1 + x7_2.size ≤ 9223372036854775807 then (if ((⟨#[36]⟩ : ByteArray) ++ x7_2).size + (strOfNums y266).size ≤ 9223372036854775807 then ((wisplaw02_told.f kj62 (((⟨#[36]⟩ : ByteArray) ++ x7_2) ++ (strOfNums y266)) 0 20).bind fun t270 => (if t270 = true then (if 1 + x8_3.size ≤ 9223372036854775807 then (if ((⟨#[37]⟩ : ByteArray) ++ x8_3).size + (strOfNums y266).size ≤ 9223372036854775807 then ((wisplaw02_told.f kj62 (((⟨#[37]⟩ : ByteArray) ++ x8_3) ++ (strOfNums y266)) 0 20).bind fun t271 => (some t271)) else (none)) else (none)) else (some false))) else (none)) else (none)) else (some false))) else (none))) = some r := by rw [if_neg (show ¬ (false = true) by decide)] at H; exact H
                                                clear H
                                                have H := H1
                                                clear H1
                                                obtain ⟨y266, hy266⟩ : ∃ y_ : List Int, y_ = (([a1] : List Int)) := ⟨_, rfl⟩
                                                replace H : (if x6_1.size + (strOfNums y266).size ≤ 9223372036854775807 then ((wisplaw02_told.f kj62 (x6_1 ++ (strOfNums y266)) 0 20).bind fun t269 => (if t269 = true then (if 1 + x7_2.size ≤ 9223372036854775807 then (if ((⟨#[36]⟩ : ByteArray) ++ x7_2).size + (strOfNums y266).size ≤ 9223372036854775807 then ((wisplaw02_told.f kj62 (((⟨#[36]⟩ : ByteArray) ++ x7_2) ++ (strOfNums y266)) 0 20).bind fun t270 => (if t270 = true then (if 1 + x8_3.size ≤ 9223372036854775807 then (if ((⟨#[37]⟩ : ByteArray) ++ x8_3).size + (strOfNums y266).size ≤ 9223372036854775807 then ((wisplaw02_told.f kj62 (((⟨#[37]⟩ : ByteArray) ++ x8_3) ++ (strOfNums y266)) 0 20).bind fun t271 => (some t271)) else (none)) else (none)) else (some false))) else (none)) else (none)) else (some false))) else (none)) = some r := by first | (rw [hy266]; with_reducible exact H) | (have H2_ := (Option.bind_some _ _).symm.trans H; rw [hy266]; with_reducible exact H2_) | (have H2_ := (Option.bind_some _ _).symm.trans H; with_reducible exact H2_) | with_reducible exact H | (rw [hy266]; exact H) | exact H
                                                have Ny266 := Aside0.mk hy266
                                                clear hy266
                                                by_cases c69 : x6_1.size + (strOfNums y266).size ≤ 9223372036854775807
                                                · rw [if_pos c69] at H
                                                  have c69b0 := eq_true c69
                                                  have c69b1 : decide (x6_1.size + (strOfNums y266).size ≤ 9223372036854775807) = true := decide_eq_true c69
                                                  try have c69b2 : (9223372036854775807 < x6_1.size + (strOfNums y266).size) = False := eq_false (Nat.not_lt.2 c69)
                                                  replace H := Option.bind_eq_some_iff.mp H
                                                  obtain ⟨t269, A700, H⟩ := H
                                                  replace H : (if t269 = true then (if 1 + x7_2.size ≤ 9223372036854775807 then (if ((⟨#[36]⟩ : ByteArray) ++ x7_2).size + (strOfNums y266).size ≤ 9223372036854775807 then ((wisplaw02_told.f kj62 (((⟨#[36]⟩ : ByteArray) ++ x7_2) ++ (strOfNums y266)) 0 20).bind fun t270 => (if t270 = true then (if 1 + x8_3.size ≤ 9223372036854775807 then (if ((⟨#[37]⟩ : ByteArray) ++ x8_3).size + (strOfNums y266).size ≤ 9223372036854775807 then ((wisplaw02_told.f kj62 (((⟨#[37]⟩ : ByteArray) ++ x8_3) ++ (strOfNums y266)) 0 20).bind fun t271 => (some t271)) else (none)) else (none)) else (some false))) else (none)) else (none)) else (some false)) = some r := H
                                                  have A70 := Aside0.mk A700
                                                  clear A700
                                                  by_cases c71 : t269 = true
                                                  · subst c71
                                                    have H1 : (if 1 + x7_2.size ≤ 9223372036854775807 then (if ((⟨#[36]⟩ : ByteArray) ++ x7_2).size + (strOfNums y266).size ≤ 9223372036854775807 then ((wisplaw02_told.f kj62 (((⟨#[36]⟩ : ByteArray) ++ x7_2) ++ (strOfNums y266)) 0 20).bind fun t270 => (if t270 = true then (if 1 + x8_3.size ≤ 9223372036854775807 then (if ((⟨#[37]⟩ : ByteArray) ++ x8_3).size + (strOfNums y266).size ≤ 9223372036854775807 then ((wisplaw02_told.f kj62 (((⟨#[37]⟩ : ByteArray) ++ x8_3) ++ (strOfNums y266)) 0 20).bind fun t271 => (some t271)) else (none)) else (none)) else (some false))) else (none)) else (none)) = some r := by rw [if_pos rfl] at H; exact H
                                                    clear H
                                                    have H := H1
                                                    clear H1
                                                    by_cases c72 : 1 + x7_2.size ≤ 9223372036854775807
                                                    · rw [if_pos c72] at H
                                                      have c72b0 := eq_true c72
                                                      have c72b1 : decide (1 + x7_2.size ≤ 9223372036854775807) = true := decide_eq_true c72
                                                      try have c72b2 : (9223372036854775807 < 1 + x7_2.size) = False := eq_false (Nat.not_lt.2 c72)
                                                      by_cases c73 : ((⟨#[36]⟩ : ByteArray) ++ x7_2).size + (strOfNums y266).size ≤ 9223372036854775807
                                                      · rw [if_pos c73] at H
                                                        have c73b0 := eq_true c73
                                                        have c73b1 : decide (((⟨#[36]⟩ : ByteArray) ++ x7_2).size + (strOfNums y266).size ≤ 9223372036854775807) = true := decide_eq_true c73
                                                        try have c73b2 : (9223372036854775807 < ((⟨#[36]⟩ : ByteArray) ++ x7_2).size + (strOfNums y266).size) = False := eq_false (Nat.not_lt.2 c73)
                                                        replace H := Option.bind_eq_some_iff.mp H
                                                        obtain ⟨t270, A740, H⟩ := H
                                                        replace H : (if t270 = true then (if 1 + x8_3.size ≤ 9223372036854775807 then (if ((⟨#[37]⟩ : ByteArray) ++ x8_3).size + (strOfNums y266).size ≤ 9223372036854775807 then ((wisplaw02_told.f kj62 (((⟨#[37]⟩ : ByteArray) ++ x8_3) ++ (strOfNums y266)) 0 20).bind fun t271 => (some t271)) else (none)) else (none)) else (some false)) = some r := H
                                                        have A74 := Aside0.mk A740
                                                        clear A740
                                                        by_cases c75 : t270 = true
                                                        · subst c75
                                                          have H1 : (if 1 + x8_3.size ≤ 9223372036854775807 then (if ((⟨#[37]⟩ : ByteArray) ++ x8_3).size + (strOfNums y266).size ≤ 9223372036854775807 then ((wisplaw02_told.f kj62 (((⟨#[37]⟩ : ByteArray) ++ x8_3) ++ (strOfNums y266)) 0 20).bind fun t271 => (some t271)) else (none)) else (none)) = some r := by rw [if_pos rfl] at H; exact H
                                                          clear H
                                                          have H := H1
                                                          clear H1
                                                          by_cases c76 : 1 + x8_3.size ≤ 9223372036854775807
                                                          · rw [if_pos c76] at H
                                                            have c76b0 := eq_true c76
                                                            have c76b1 : decide (1 + x8_3.size ≤ 9223372036854775807) = true := decide_eq_true c76
                                                            try have c76b2 : (9223372036854775807 < 1 + x8_3.size) = False := eq_false (Nat.not_lt.2 c76)
                                                            by_cases c77 : ((⟨#[37]⟩ : ByteArray) ++ x8_3).size + (strOfNums y266).size ≤ 9223372036854775807
                                                            · rw [if_pos c77] at H
                                                              have c77b0 := eq_true c77
                                                              have c77b1 : decide (((⟨#[37]⟩ : ByteArray) ++ x8_3).size + (strOfNums y266).size ≤ 9223372036854775807) = true := decide_eq_true c77
                                                              try have c77b2 : (9223372036854775807 < ((⟨#[37]⟩ : ByteArray) ++ x8_3).size + (strOfNums y266).size) = False := eq_false (Nat.not_lt.2 c77)
                                                              replace H := Option.bind_eq_some_iff.mp H
                                                              obtain ⟨t271, A780, H⟩ := H
                                                              replace H : (some t271) = some r := H
                                                              have A78 := Aside0.mk A780
                                                              clear A780
                                                              obtain rfl := Option.some.inj H
                                                              go_wp2_with (first | ((with_reducible refine gate_dst (N := 128) rfl ?_); refine Kd.R_lit (Kd.int .u8) _ 5 ?hg (N := 128) ?hd (xs := ([a1] : List Int)) (inner := [.int .u8 a1]) (ok := fun _ => True) (okp := fun _ => True) ?hr ?hp (fun _ hk => hk) trivial (Below.refl _ _) (Nat.le_refl _) (by simp) ?_; (case hd => rfl); (case hg => rfl); (case hr => first | (go_simp; done) | (go_simp; rfl)); (case hp => exact (Reps.one (show Kd.M (Kd.int .u8) _ _ _ a1 [.int .u8 a1] from rfl) (Reps.none _ _))); intro v267 w79 ho80 hb hg_ hnew_; clear hg_ hnew_; (first | rw [← Ny266.out] at ho80 | (simp only [Int.reduceToNat] at ho80; rw [← Ny266.out] at ho80)); have n0_ := Aside0.mk (Kd.R_lower ho80 (below_size (by repeat (first | (with_reducible first | exact HB.out | apply below_alloc | apply pw_below_drewN | apply below_drew1) | exact HB.out)))); have n1_ := Aside0.mk (below_step (by repeat (first | (with_reducible first | exact HB.out | apply below_alloc | apply pw_below_drewN | apply below_drew1) | exact HB.out)) hb); clear HB; have HO268 := n0_; have HB := n1_; clear n0_ n1_; clear hb ho80; have hcv81 := own_string (P := Try.prog) Try.underlying75 Try.underlying5 Try.underlying9 (Kd.own_of_R HO268.out)) | ((with_reducible refine gate_callee (f := 24) rfl ?_); refine goesL_ (some 133) rfl rfl Try.func24 (by kernel_rfl) rfl #[.string (x6_1 ++ (strOfNums y266)), .int .u16 0, .int .i64 20] rfl (by (try simp only [List.map_toArray, List.map_cons, List.map_nil]); first | done | rfl | (simp only [List.length_drop, List.length_take]; rfl)) ?_; (with_reducible refine (wisplaw02_told.calls kj62 (x6_1 ++ (strOfNums y266)) 0 20 true _ A70.out).mono ?_); rintro e w82 ⟨rfl, hb⟩; refine ⟨_, rfl, ?_⟩; have n0_ := Aside0.mk (Kd.R_below (by (with_reducible repeat (first | apply Kd.R_alloc | apply Kd.R_drewN | apply Kd.R_drew)); exact HO268.out) hb); have n1_ := Aside0.mk (below_step (by repeat (first | (with_reducible first | exact HB.out | apply below_alloc | apply pw_below_drewN | apply below_drew1) | exact HB.out)) hb); clear HO268; clear HB; have HO268 := n0_; have HB := n1_; clear n0_ n1_; (try clear hb); (try clear hb2); (try clear hk); (try clear hi)) | (go_at_call 24; (with_reducible refine (wisplaw02_told.calls kj62 (((⟨#[36]⟩ : ByteArray) ++ x7_2) ++ (strOfNums y266)) 0 20 true _ A74.out).mono ?_); rintro e w83 ⟨rfl, hb⟩; have n0_ := Aside0.mk (Kd.R_below (by (with_reducible repeat (first | apply Kd.R_alloc | apply Kd.R_drewN | apply Kd.R_drew)); exact HO268.out) hb); have n1_ := Aside0.mk (below_step (by repeat (first | (with_reducible first | exact HB.out | apply below_alloc | apply pw_below_drewN | apply below_drew1) | exact HB.out)) hb); clear HO268; clear HB; have HO268 := n0_; have HB := n1_; clear n0_ n1_; (try clear hb); (try clear hb2); (try clear hk); (try clear hi)) | (go_at_call 24; (with_reducible refine (wisplaw02_told.calls kj62 (((⟨#[37]⟩ : ByteArray) ++ x8_3) ++ (strOfNums y266)) 0 20 t271 _ A78.out).mono ?_); rintro e w84 ⟨rfl, hb⟩; have n0_ := Aside0.mk (Kd.R_below (by (with_reducible repeat (first | apply Kd.R_alloc | apply Kd.R_drewN | apply Kd.R_drew)); exact HO268.out) hb); have n1_ := Aside0.mk (below_step (by repeat (first | (with_reducible first | exact HB.out | apply below_alloc | apply pw_below_drewN | apply below_drew1) | exact HB.out)) hb); clear HO268; clear HB; have HO268 := n0_; have HB := n1_; clear n0_ n1_; (try clear hb); (try clear hb2); (try clear hk); (try clear hi)))
                                                              go_ret
                                                              exact ⟨by first | rfl | (simp [errW_none, errW_some] <;> rfl) | (simp only [← hji5]; first | rfl | (simp [errW_none, errW_some] <;> rfl)) | (simp [*, errW_none, errW_some] <;> rfl), by repeat (first | (with_reducible first | exact HB.out | apply below_alloc | apply pw_below_drewN | apply below_drew1) | exact HB.out)⟩
                                                            · rw [if_neg c77] at H
                                                              exact absurd H (by simp)
                                                          · rw [if_neg c76] at H
                                                            exact absurd H (by simp)
                                                        · replace c75 := Bool.eq_false_iff.mpr c75
                                                          subst c75
                                                          have H1 : (some false) = some r := by rw [if_neg (show ¬ (false = true) by decide)] at H; exact H
                                                          clear H
                                                          have H := H1
                                                          clear H1
                                                          obtain rfl := Option.some.inj H
                                                          go_wp2_with (first | ((with_reducible refine gate_dst (N := 128) rfl ?_); refine Kd.R_lit (Kd.int .u8) _ 5 ?hg (N := 128) ?hd (xs := ([a1] : List Int)) (inner := [.int .u8 a1]) (ok := fun _ => True) (okp := fun _ => True) ?hr ?hp (fun _ hk => hk) trivial (Below.refl _ _) (Nat.le_refl _) (by simp) ?_; (case hd => rfl); (case hg => rfl); (case hr => first | (go_simp; done) | (go_simp; rfl)); (case hp => exact (Reps.one (show Kd.M (Kd.int .u8) _ _ _ a1 [.int .u8 a1] from rfl) (Reps.none _ _))); intro v267 w85 ho86 hb hg_ hnew_; clear hg_ hnew_; (first | rw [← Ny266.out] at ho86 | (simp only [Int.reduceToNat] at ho86; rw [← Ny266.out] at ho86)); have n0_ := Aside0.mk (Kd.R_lower ho86 (below_size (by repeat (first | (with_reducible first | exact HB.out | apply below_alloc | apply pw_below_drewN | apply below_drew1) | exact HB.out)))); have n1_ := Aside0.mk (below_step (by repeat (first | (with_reducible first | exact HB.out | apply below_alloc | apply pw_below_drewN | apply below_drew1) | exact HB.out)) hb); clear HB; have HO268 := n0_; have HB := n1_; clear n0_ n1_; clear hb ho86; have hcv87 := own_string (P := Try.prog) Try.underlying75 Try.underlying5 Try.underlying9 (Kd.own_of_R HO268.out)) | ((with_reducible refine gate_callee (f := 24) rfl ?_); refine goesL_ (some 133) rfl rfl Try.func24 (by kernel_rfl) rfl #[.string (x6_1 ++ (strOfNums y266)), .int .u16 0, .int .i64 20] rfl (by (try simp only [List.map_toArray, List.map_cons, List.map_nil]); first | done | rfl | (simp only [List.length_drop, List.length_take]; rfl)) ?_; (with_reducible refine (wisplaw02_told.calls kj62 (x6_1 ++ (strOfNums y266)) 0 20 true _ A70.out).mono ?_); rintro e w88 ⟨rfl, hb⟩; refine ⟨_, rfl, ?_⟩; have n0_ := Aside0.mk (Kd.R_below (by (with_reducible repeat (first | apply Kd.R_alloc | apply Kd.R_drewN | apply Kd.R_drew)); exact HO268.out) hb); have n1_ := Aside0.mk (below_step (by repeat (first | (with_reducible first | exact HB.out | apply below_alloc | apply pw_below_drewN | apply below_drew1) | exact HB.out)) hb); clear HO268; clear HB; have HO268 := n0_; have HB := n1_; clear n0_ n1_; (try clear hb); (try clear hb2); (try clear hk); (try clear hi)) | (go_at_call 24; (with_reducible refine (wisplaw02_told.calls kj62 (((⟨#[36]⟩ : ByteArray) ++ x7_2) ++ (strOfNums y266)) 0 20 false _ A74.out).mono ?_); rintro e w89 ⟨rfl, hb⟩; have n0_ := Aside0.mk (Kd.R_below (by (with_reducible repeat (first | apply Kd.R_alloc | apply Kd.R_drewN | apply Kd.R_drew)); exact HO268.out) hb); have n1_ := Aside0.mk (below_step (by repeat (first | (with_reducible first | exact HB.out | apply below_alloc | apply pw_below_drewN | apply below_drew1) | exact HB.out)) hb); clear HO268; clear HB; have HO268 := n0_; have HB := n1_; clear n0_ n1_; (try clear hb); (try clear hb2); (try clear hk); (try clear hi)))
                                                          go_ret
                                                          exact ⟨by first | rfl | (simp [errW_none, errW_some] <;> rfl) | (simp only [← hji5]; first | rfl | (simp [errW_none, errW_some] <;> rfl)) | (simp [*, errW_none, errW_some] <;> rfl), by repeat (first | (with_reducible first | exact HB.out | apply below_alloc | apply pw_below_drewN | apply below_drew1) | exact HB.out)⟩
                                                      · rw [if_neg c73] at H
                                                        exact absurd H (by simp)
                                                    · rw [if_neg c72] at H
                                                      exact absurd H (by simp)
                                                  · replace c71 := Bool.eq_false_iff.mpr c71
                                                    subst c71
                                                    have H1 : (some false) = some r := by rw [if_neg (show ¬ (false = true) by decide)] at H; exact H
                                                    clear H
                                                    have H := H1
                                                    clear H1
                                                    obtain rfl := Option.some.inj H
                                                    go_wp2_with (first | ((with_reducible refine gate_dst (N := 128) rfl ?_); refine Kd.R_lit (Kd.int .u8) _ 5 ?hg (N := 128) ?hd (xs := ([a1] : List Int)) (inner := [.int .u8 a1]) (ok := fun _ => True) (okp := fun _ => True) ?hr ?hp (fun _ hk => hk) trivial (Below.refl _ _) (Nat.le_refl _) (by simp) ?_; (case hd => rfl); (case hg => rfl); (case hr => first | (go_simp; done) | (go_simp; rfl)); (case hp => exact (Reps.one (show Kd.M (Kd.int .u8) _ _ _ a1 [.int .u8 a1] from rfl) (Reps.none _ _))); intro v267 w90 ho91 hb hg_ hnew_; clear hg_ hnew_; (first | rw [← Ny266.out] at ho91 | (simp only [Int.reduceToNat] at ho91; rw [← Ny266.out] at ho91)); have n0_ := Aside0.mk (Kd.R_lower ho91 (below_size (by repeat (first | (with_reducible first | exact HB.out | apply below_alloc | apply pw_below_drewN | apply below_drew1) | exact HB.out)))); have n1_ := Aside0.mk (below_step (by repeat (first | (with_reducible first | exact HB.out | apply below_alloc | apply pw_below_drewN | apply below_drew1) | exact HB.out)) hb); clear HB; have HO268 := n0_; have HB := n1_; clear n0_ n1_; clear hb ho91; have hcv92 := own_string (P := Try.prog) Try.underlying75 Try.underlying5 Try.underlying9 (Kd.own_of_R HO268.out)) | ((with_reducible refine gate_callee (f := 24) rfl ?_); refine goesL_ (some 133) rfl rfl Try.func24 (by kernel_rfl) rfl #[.string (x6_1 ++ (strOfNums y266)), .int .u16 0, .int .i64 20] rfl (by (try simp only [List.map_toArray, List.map_cons, List.map_nil]); first | done | rfl | (simp only [List.length_drop, List.length_take]; rfl)) ?_; (with_reducible refine (wisplaw02_told.calls kj62 (x6_1 ++ (strOfNums y266)) 0 20 false _ A70.out).mono ?_); rintro e w93 ⟨rfl, hb⟩; refine ⟨_, rfl, ?_⟩; have n0_ := Aside0.mk (Kd.R_below (by (with_reducible repeat (first | apply Kd.R_alloc | apply Kd.R_drewN | apply Kd.R_drew)); exact HO268.out) hb); have n1_ := Aside0.mk (below_step (by repeat (first | (with_reducible first | exact HB.out | apply below_alloc | apply pw_below_drewN | apply below_drew1) | exact HB.out)) hb); clear HO268; clear HB; have HO268 := n0_; have HB := n1_; clear n0_ n1_; (try clear hb); (try clear hb2); (try clear hk); (try clear hi)))
                                                    go_ret
                                                    exact ⟨by first | rfl | (simp [errW_none, errW_some] <;> rfl) | (simp only [← hji5]; first | rfl | (simp [errW_none, errW_some] <;> rfl)) | (simp [*, errW_none, errW_some] <;> rfl), by repeat (first | (with_reducible first | exact HB.out | apply below_alloc | apply pw_below_drewN | apply below_drew1) | exact HB.out)⟩
                                                · rw [if_neg c69] at H
                                                  exact absurd H (by simp)
  · replace c4 := Bool.eq_false_iff.mpr c4
    subst c4
    have H1 : (some false) = some r := by rw [if_neg (show ¬ (false = true) by decide)] at H; exact H
    clear H
    have H := H1
    clear H1
    obtain rfl := Option.some.inj H
    go_enter Try.func12, Try.ntmps12
    go_wp2_with (first | ((with_reducible refine gate_callee (f := 23) rfl ?_); refine goesL_ (some 16) rfl rfl Try.func23 (by kernel_rfl) rfl #[] rfl (by (try simp only [List.map_toArray, List.map_cons, List.map_nil]); first | done | rfl | (simp only [List.length_drop, List.length_take]; rfl)) ?_; (with_reducible refine (wisplaw02_fixed.calls k  false _ A3.out).mono ?_); rintro e w94 ⟨rfl, hb⟩; refine ⟨_, rfl, ?_⟩; have n0_ := Aside0.mk (below_step (by repeat (first | (with_reducible first | exact HB.out | apply below_alloc | apply pw_below_drewN | apply below_drew1) | exact HB.out)) hb); clear HB; have HB := n0_; clear n0_; (try clear hb); (try clear hb2); (try clear hk); (try clear hi)))
    go_ret
    exact ⟨by first | rfl | (simp [errW_none, errW_some] <;> rfl) | (simp [*, errW_none, errW_some] <;> rfl), by repeat (first | (with_reducible first | exact HB.out | apply below_alloc | apply pw_below_drewN | apply below_drew1) | exact HB.out)⟩

/-- THE ONE PURE STATEMENT of wisplaw02_TextForms: yours. -/
def wisplaw02_TextForms.Pure : Prop := ∀ (a0 : Int) (a1 : Int), (Lit.int .i64 a0).wf = true → (Lit.int .u8 a1).wf = true → ∃ k, wisplaw02_TextForms.f k a0 a1 = some true
theorem wisplaw02_TextForms.walk (P : wisplaw02_TextForms.Pure) (a0 : Int) (a1 : Int) (w : World) (w0 : (Lit.int .i64 a0).wf = true) (w1 : (Lit.int .u8 a1).wf = true) :
    Calls Try.prog 12 #[.int .i64 a0, .int .u8 a1] w fun e w' => e = .returned (.bool true) ∧ Below w.heap.size w w' := by
  obtain ⟨k, h⟩ := P a0 a1 w0 w1
  refine (wisplaw02_TextForms.calls k a0 a1 true w h).mono ?_
  rintro e w' ⟨rfl, hd⟩
  exact ⟨rfl, hd⟩

end Go.Proofs.Ytjphhnhloeanlaa.P
