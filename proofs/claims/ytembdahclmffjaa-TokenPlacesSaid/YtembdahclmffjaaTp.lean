/- Printed by a program of this session (it turns the kit's print): see wip/myprint. -/
import Derived.Test.YtembdahclmffjaaPx0
import Derived.Test.YtembdahclmffjaaPx1
import Derived.Test.YtembdahclmffjaaPx2
import Derived.Test.YtembdahclmffjaaPx7
import Derived.Test.YtembdahclmffjaaPx8
import Derived.Test.YtembdahclmffjaaPx15
namespace Go.Proofs.Ytembdahclmffjaa.P
open Go.RowKit Go.Proofs.YtembdahclmffjaaW.PrintWords Go.Proofs.YtembdahclmffjaaW.PrintLast Go.Proofs.YtembdahclmffjaaW.PrintMore Go.Proofs.Ytembdahclmffjaa.Mine
attribute [local go_sem] max2_int min2_int max_two min_two max_three min_three max_four min_four   -- for this text's walks alone
set_option linter.unusedVariables false
set_option linter.unusedSimpArgs false

attribute [local go_sem high] eqA24 eqA30
/-! ### wisplaw09_TokenPlaces: function 6 -/
mutual
def wisplaw09_TokenPlaces.j0 : Nat → ByteArray → Option (Bool)
  | 0, _ => none
  | k + 1, x0 => (token_Scan.f k x0).bind fun bt178 => ((wisplaw09_fixed.f k).bind fun t185 => (if t185 = true then (if bt178.2.2.2 = 0 then (wisplaw09_TokenPlaces.l0 k x0 bt178.1 0 0 bt178.2.1 bt178.2.2.1) else ((wisplaw09_offset.f k x0 bt178.2.1 bt178.2.2.1).bind fun t186 => (if t186 < 0 then (none) else (if (bt178.1.length : Int) = 0 then (if bt178.2.2.2 = 91 then (wisplaw09_TokenPlaces.j1 k x0 t186 false bt178.2.1 bt178.2.2.1) else (if bt178.2.2.2 = 92 then (wisplaw09_TokenPlaces.j1 k x0 t186 false bt178.2.1 bt178.2.2.1) else (if bt178.2.2.2 = 93 then (wisplaw09_TokenPlaces.j1 k x0 t186 false bt178.2.1 bt178.2.2.1) else (wisplaw09_TokenPlaces.j1 k x0 t186 (bt178.2.2.2 != 21) bt178.2.1 bt178.2.2.1)))) else (none))))) else (none)))
def wisplaw09_TokenPlaces.l0 : Nat → ByteArray → List (S30) → Int → Int → Int → Int → Option (Bool)
  | 0, _, _, _, _, _, _ => none
  | k + 1, x0, x3, x10, x11, x185000, x185001 => if x11 < (x3.length : Int) then (wisplaw09_TokenPlaces.j3 k x0 x3 x10 x11 (decide (x11 < 200)) x185000 x185001) else (wisplaw09_TokenPlaces.j3 k x0 x3 x10 x11 false x185000 x185001)
def wisplaw09_TokenPlaces.j3 : Nat → ByteArray → List (S30) → Int → Int → Bool → Int → Int → Option (Bool)
  | 0, _, _, _, _, _, _, _ => none
  | k + 1, x0, x3, x10, x11, x83, x185000, x185001 => if x83 = true then (if 0 ≤ x11 then (if x11 < (x3.length : Int) then ((wisplaw09_offset.f k x0 ((rd_T30 x3 x11).f3.f0) ((rd_T30 x3 x11).f3.f1)).bind fun t197 => (if t197 < x10 then (none) else (if (((rd_T30 x3 x11).f1).size : Int) < 1 then (none) else (if (((rd_T30 x3 x11).f1).size : Int) > 31 then (none) else (if (wrap64 (t197 + (((rd_T30 x3 x11).f1).size : Int))) > (x0.size : Int) then (none) else (if 0 ≤ t197 then (if t197 ≤ (wrap64 (t197 + (((rd_T30 x3 x11).f1).size : Int))) then (if (wrap64 (t197 + (((rd_T30 x3 x11).f1).size : Int))) ≤ (x0.size : Int) then (if (x0.extract (t197 : Int).toNat ((wrap64 (t197 + (((rd_T30 x3 x11).f1).size : Int))) : Int).toNat).toList = ((rd_T30 x3 x11).f1).toList then (if t197 ≤ (x0.size : Int) then ((token_End.f k (x0.extract 0 (t197 : Int).toNat)).bind fun bt200 => (wisplaw09_TokenPlaces.j4 k x0 x3 x11 t197 (((rd_T30 x3 x11).f1).size : Int) (!(bt200.1 == ((rd_T30 x3 x11).f3.f0)) || (!(bt200.2 == ((rd_T30 x3 x11).f3.f1)))) x185000 x185001)) else (none)) else (none)) else (none)) else (none)) else (none))))))) else (none)) else (none)) else (some (x185000 == 0 && (x185001 == 0)))
def wisplaw09_TokenPlaces.j4 : Nat → ByteArray → List (S30) → Int → Int → Int → Bool → Int → Int → Option (Bool)
  | 0, _, _, _, _, _, _, _, _ => none
  | k + 1, x0, x3, x11, x12, x13, x143, x185000, x185001 => if x143 = true then (none) else (if 0 ≤ (wrap64 (x12 + x13)) then (if (wrap64 (x12 + x13)) ≤ (x0.size : Int) then ((token_Scan.f k (x0.extract 0 ((wrap64 (x12 + x13)) : Int).toNat)).bind fun bt203 => (if bt203.2.2.2 = 0 then (if (bt203.1.length : Int) = (wrap64 (x11 + 1)) then (if 0 ≤ x11 then (if x11 < (bt203.1.length : Int) then (if x11 < (x3.length : Int) then (if (!(((rd_T30 bt203.1 x11).f0) == ((rd_T30 x3 x11).f0)) || (!((((rd_T30 bt203.1 x11).f1).toList) == (((rd_T30 x3 x11).f1).toList)) || (!(((rd_T30 bt203.1 x11).f2) == ((rd_T30 x3 x11).f2)) || ((!(((rd_T30 bt203.1 x11).f3.f0) == ((rd_T30 x3 x11).f3.f0)) || (!(((rd_T30 bt203.1 x11).f3.f1) == ((rd_T30 x3 x11).f3.f1)))))))) = true then (none) else (wisplaw09_TokenPlaces.l0 k x0 x3 (wrap64 (x12 + x13)) (wrap64 (x11 + 1)) x185000 x185001)) else (none)) else (none)) else (none)) else (none)) else (none))) else (none)) else (none))
def wisplaw09_TokenPlaces.j1 : Nat → ByteArray → Int → Bool → Int → Int → Option (Bool)
  | 0, _, _, _, _, _ => none
  | k + 1, x0, x6, x57, x185000, x185001 => if x57 = true then (none) else (if 0 ≤ x6 then (if x6 ≤ (x0.size : Int) then ((token_Scan.f k (x0.extract 0 (x6 : Int).toNat)).bind fun bt187 => (if bt187.2.2.2 = 0 then ((token_End.f k (x0.extract 0 (x6 : Int).toNat)).bind fun bt194 => (some (bt194.1 == x185000 && (bt194.2 == x185001)))) else (none))) else (none)) else (none))
end
def wisplaw09_TokenPlaces.f (k : Nat) (a0 : ByteArray) : Option (Bool) := if (a0.size : Int) > 3000 then (if 0 ≤ 3000 then (if 3000 ≤ (a0.size : Int) then (wisplaw09_TokenPlaces.j0 k (a0.extract 0 3000)) else (none)) else (none)) else (wisplaw09_TokenPlaces.j0 k a0)
theorem wisplaw09_TokenPlaces.mono_l : ∀ k, (∀ y0, LeO (wisplaw09_TokenPlaces.j0 k y0) (wisplaw09_TokenPlaces.j0 (k + 1) y0)) ∧ (∀ y0 y1 y2 y3 y4 y5, LeO (wisplaw09_TokenPlaces.l0 k y0 y1 y2 y3 y4 y5) (wisplaw09_TokenPlaces.l0 (k + 1) y0 y1 y2 y3 y4 y5)) ∧ (∀ y0 y1 y2 y3 y4 y5 y6, LeO (wisplaw09_TokenPlaces.j3 k y0 y1 y2 y3 y4 y5 y6) (wisplaw09_TokenPlaces.j3 (k + 1) y0 y1 y2 y3 y4 y5 y6)) ∧ (∀ y0 y1 y2 y3 y4 y5 y6 y7, LeO (wisplaw09_TokenPlaces.j4 k y0 y1 y2 y3 y4 y5 y6 y7) (wisplaw09_TokenPlaces.j4 (k + 1) y0 y1 y2 y3 y4 y5 y6 y7)) ∧ (∀ y0 y1 y2 y3 y4, LeO (wisplaw09_TokenPlaces.j1 k y0 y1 y2 y3 y4) (wisplaw09_TokenPlaces.j1 (k + 1) y0 y1 y2 y3 y4))
  | 0 => ⟨fun _ r h => by simp [wisplaw09_TokenPlaces.j0] at h, fun _ _ _ _ _ _ r h => by simp [wisplaw09_TokenPlaces.l0] at h, fun _ _ _ _ _ _ _ r h => by simp [wisplaw09_TokenPlaces.j3] at h, fun _ _ _ _ _ _ _ _ r h => by simp [wisplaw09_TokenPlaces.j4] at h, fun _ _ _ _ _ r h => by simp [wisplaw09_TokenPlaces.j1] at h⟩
  | k + 1 => by
    obtain ⟨ih0, ih1, ih2, ih3, ih4⟩ := wisplaw09_TokenPlaces.mono_l k
    refine ⟨?_, ?_, ?_, ?_, ?_⟩
    · intro y0
      unfold wisplaw09_TokenPlaces.j0
      repeat' first
      | (with_reducible exact ih0 _)
      | (with_reducible exact ih1 _ _ _ _ _ _)
      | (with_reducible exact ih2 _ _ _ _ _ _ _)
      | (with_reducible exact ih3 _ _ _ _ _ _ _ _)
      | (with_reducible exact ih4 _ _ _ _ _)
      | (with_reducible exact token_End.mono _ _)
      | (with_reducible exact token_Scan.mono _ _)
      | (with_reducible exact wisplaw09_fixed.mono _)
      | (with_reducible exact wisplaw09_offset.mono _ _ _ _)
      | (with_reducible exact LeO.refl _)
      | (with_reducible exact LeO.none _)
      | (with_reducible refine LeO.ite ?_ ?_)
      | (with_reducible refine LeO.bind ?_ (fun _ => ?_))
      | exact ih0 _
      | exact ih1 _ _ _ _ _ _
      | exact ih2 _ _ _ _ _ _ _
      | exact ih3 _ _ _ _ _ _ _ _
      | exact ih4 _ _ _ _ _
      | exact token_End.mono _ _
      | exact token_Scan.mono _ _
      | exact wisplaw09_fixed.mono _
      | exact wisplaw09_offset.mono _ _ _ _
      | exact LeO.none _
      | refine LeO.ite ?_ ?_
      | refine LeO.bind ?_ (fun _ => ?_)
    · intro y0 y1 y2 y3 y4 y5
      unfold wisplaw09_TokenPlaces.l0
      repeat' first
      | (with_reducible exact ih0 _)
      | (with_reducible exact ih1 _ _ _ _ _ _)
      | (with_reducible exact ih2 _ _ _ _ _ _ _)
      | (with_reducible exact ih3 _ _ _ _ _ _ _ _)
      | (with_reducible exact ih4 _ _ _ _ _)
      | (with_reducible exact token_End.mono _ _)
      | (with_reducible exact token_Scan.mono _ _)
      | (with_reducible exact wisplaw09_fixed.mono _)
      | (with_reducible exact wisplaw09_offset.mono _ _ _ _)
      | (with_reducible exact LeO.refl _)
      | (with_reducible exact LeO.none _)
      | (with_reducible refine LeO.ite ?_ ?_)
      | (with_reducible refine LeO.bind ?_ (fun _ => ?_))
      | exact ih0 _
      | exact ih1 _ _ _ _ _ _
      | exact ih2 _ _ _ _ _ _ _
      | exact ih3 _ _ _ _ _ _ _ _
      | exact ih4 _ _ _ _ _
      | exact token_End.mono _ _
      | exact token_Scan.mono _ _
      | exact wisplaw09_fixed.mono _
      | exact wisplaw09_offset.mono _ _ _ _
      | exact LeO.none _
      | refine LeO.ite ?_ ?_
      | refine LeO.bind ?_ (fun _ => ?_)
    · intro y0 y1 y2 y3 y4 y5 y6
      unfold wisplaw09_TokenPlaces.j3
      repeat' first
      | (with_reducible exact ih0 _)
      | (with_reducible exact ih1 _ _ _ _ _ _)
      | (with_reducible exact ih2 _ _ _ _ _ _ _)
      | (with_reducible exact ih3 _ _ _ _ _ _ _ _)
      | (with_reducible exact ih4 _ _ _ _ _)
      | (with_reducible exact token_End.mono _ _)
      | (with_reducible exact token_Scan.mono _ _)
      | (with_reducible exact wisplaw09_fixed.mono _)
      | (with_reducible exact wisplaw09_offset.mono _ _ _ _)
      | (with_reducible exact LeO.refl _)
      | (with_reducible exact LeO.none _)
      | (with_reducible refine LeO.ite ?_ ?_)
      | (with_reducible refine LeO.bind ?_ (fun _ => ?_))
      | exact ih0 _
      | exact ih1 _ _ _ _ _ _
      | exact ih2 _ _ _ _ _ _ _
      | exact ih3 _ _ _ _ _ _ _ _
      | exact ih4 _ _ _ _ _
      | exact token_End.mono _ _
      | exact token_Scan.mono _ _
      | exact wisplaw09_fixed.mono _
      | exact wisplaw09_offset.mono _ _ _ _
      | exact LeO.none _
      | refine LeO.ite ?_ ?_
      | refine LeO.bind ?_ (fun _ => ?_)
    · intro y0 y1 y2 y3 y4 y5 y6 y7
      unfold wisplaw09_TokenPlaces.j4
      repeat' first
      | (with_reducible exact ih0 _)
      | (with_reducible exact ih1 _ _ _ _ _ _)
      | (with_reducible exact ih2 _ _ _ _ _ _ _)
      | (with_reducible exact ih3 _ _ _ _ _ _ _ _)
      | (with_reducible exact ih4 _ _ _ _ _)
      | (with_reducible exact token_End.mono _ _)
      | (with_reducible exact token_Scan.mono _ _)
      | (with_reducible exact wisplaw09_fixed.mono _)
      | (with_reducible exact wisplaw09_offset.mono _ _ _ _)
      | (with_reducible exact LeO.refl _)
      | (with_reducible exact LeO.none _)
      | (with_reducible refine LeO.ite ?_ ?_)
      | (with_reducible refine LeO.bind ?_ (fun _ => ?_))
      | exact ih0 _
      | exact ih1 _ _ _ _ _ _
      | exact ih2 _ _ _ _ _ _ _
      | exact ih3 _ _ _ _ _ _ _ _
      | exact ih4 _ _ _ _ _
      | exact token_End.mono _ _
      | exact token_Scan.mono _ _
      | exact wisplaw09_fixed.mono _
      | exact wisplaw09_offset.mono _ _ _ _
      | exact LeO.none _
      | refine LeO.ite ?_ ?_
      | refine LeO.bind ?_ (fun _ => ?_)
    · intro y0 y1 y2 y3 y4
      unfold wisplaw09_TokenPlaces.j1
      repeat' first
      | (with_reducible exact ih0 _)
      | (with_reducible exact ih1 _ _ _ _ _ _)
      | (with_reducible exact ih2 _ _ _ _ _ _ _)
      | (with_reducible exact ih3 _ _ _ _ _ _ _ _)
      | (with_reducible exact ih4 _ _ _ _ _)
      | (with_reducible exact token_End.mono _ _)
      | (with_reducible exact token_Scan.mono _ _)
      | (with_reducible exact wisplaw09_fixed.mono _)
      | (with_reducible exact wisplaw09_offset.mono _ _ _ _)
      | (with_reducible exact LeO.refl _)
      | (with_reducible exact LeO.none _)
      | (with_reducible refine LeO.ite ?_ ?_)
      | (with_reducible refine LeO.bind ?_ (fun _ => ?_))
      | exact ih0 _
      | exact ih1 _ _ _ _ _ _
      | exact ih2 _ _ _ _ _ _ _
      | exact ih3 _ _ _ _ _ _ _ _
      | exact ih4 _ _ _ _ _
      | exact token_End.mono _ _
      | exact token_Scan.mono _ _
      | exact wisplaw09_fixed.mono _
      | exact wisplaw09_offset.mono _ _ _ _
      | exact LeO.none _
      | refine LeO.ite ?_ ?_
      | refine LeO.bind ?_ (fun _ => ?_)
theorem wisplaw09_TokenPlaces.mono : ∀ a0 k, LeO (wisplaw09_TokenPlaces.f k a0) (wisplaw09_TokenPlaces.f (k + 1) a0) := by
  intro a0 k
  obtain ⟨ih0, ih1, ih2, ih3, ih4⟩ := wisplaw09_TokenPlaces.mono_l k
  unfold wisplaw09_TokenPlaces.f
  repeat' first
      | (with_reducible exact ih0 _)
      | (with_reducible exact ih1 _ _ _ _ _ _)
      | (with_reducible exact ih2 _ _ _ _ _ _ _)
      | (with_reducible exact ih3 _ _ _ _ _ _ _ _)
      | (with_reducible exact ih4 _ _ _ _ _)
      | (with_reducible exact token_End.mono _ _)
      | (with_reducible exact token_Scan.mono _ _)
      | (with_reducible exact wisplaw09_fixed.mono _)
      | (with_reducible exact wisplaw09_offset.mono _ _ _ _)
      | (with_reducible exact LeO.refl _)
      | (with_reducible exact LeO.none _)
      | (with_reducible refine LeO.ite ?_ ?_)
      | (with_reducible refine LeO.bind ?_ (fun _ => ?_))
      | exact ih0 _
      | exact ih1 _ _ _ _ _ _
      | exact ih2 _ _ _ _ _ _ _
      | exact ih3 _ _ _ _ _ _ _ _
      | exact ih4 _ _ _ _ _
      | exact token_End.mono _ _
      | exact token_Scan.mono _ _
      | exact wisplaw09_fixed.mono _
      | exact wisplaw09_offset.mono _ _ _ _
      | exact LeO.none _
      | refine LeO.ite ?_ ?_
      | refine LeO.bind ?_ (fun _ => ?_)
def wisplaw09_TokenPlaces.T11 : Bool × List (List Nat × List Nat) := (true, [([], []), ([0], [0]), ([1], [1]), ([2], [2]), ([2], [2]), ([3, 4, 2], [2, 3, 4]), ([5, 2, 2], [2, 5]), ([2], [2]), ([6, 7, 2], [2, 6, 7]), ([2, 8], [2, 8]), ([9, 6, 0, 1, 2, 3, 4, 5, 6, 7, 8, 9], [9])])
def wisplaw09_TokenPlaces.B11 : List Nat := [0, 1, 3, 7, 7, 31, 63, 7, 255, 511, 1023]
theorem wisplaw09_TokenPlaces.tab11 : rtab .any (opsOf Try.f6 11) = wisplaw09_TokenPlaces.T11 := by kernel_rfl
theorem wisplaw09_TokenPlaces.bits11 : waitsOk wisplaw09_TokenPlaces.T11.2 wisplaw09_TokenPlaces.B11 = true := by kernel_rfl
def wisplaw09_TokenPlaces.T18 : Bool × List (List Nat × List Nat) := (true, [([], []), ([], []), ([0, 1], [0, 1]), ([2], [2]), ([3], [3]), ([4, 3], [3, 4]), ([3, 5], [3, 5]), ([6, 3], [6]), ([7], [7]), ([8, 7], [7, 8]), ([7, 9], [7, 9]), ([10, 7], [10]), ([11], [11]), ([11], [11]), ([12, 13, 11], [11, 12, 13]), ([11], [11]), ([15, 11], [11, 15]), ([14, 16, 11], [11, 14, 16]), ([11, 17], [11, 17]), ([18, 11], [18]), ([19], [19]), ([19], [19]), ([19], [19]), ([19], [19]), ([22, 23, 19], [19, 22, 23]), ([20, 21, 24, 19], [19, 20, 21, 24]), ([19], [19]), ([19], [19]), ([26, 27, 19], [19, 26, 27]), ([28, 19], [19, 28]), ([29, 19], [19, 29]), ([25, 30, 19], [19, 25, 30]), ([19, 31], [19, 31]), ([32, 19], [32]), ([33], [33]), ([33], [33]), ([34, 35, 33], [33, 34, 35]), ([36, 33, 33], [33, 36]), ([33], [33]), ([33], [33]), ([38, 39, 33], [33, 38, 39]), ([40, 33], [33, 40]), ([41, 33], [33, 41]), ([37, 42, 33], [33, 37, 42]), ([33, 43], [33, 43])])
def wisplaw09_TokenPlaces.B18 : List Nat := [0, 0, 3, 7, 15, 31, 63, 127, 255, 511, 1023, 2047, 4095, 4095, 16383, 4095, 36863, 131071, 262143, 524287, 1048575, 1048575, 1048575, 1048575, 13631487, 33554431, 1048575, 1048575, 202375167, 470810623, 1007681535, 2147483647, 4294967295, 8589934591, 17179869183, 17179869183, 68719476735, 137438953471, 17179869183, 17179869183, 841813590015, 1941325217791, 4140348473343, 8796093022207, 17592186044415]
theorem wisplaw09_TokenPlaces.tab18 : rtab .any (opsOf Try.f6 18) = wisplaw09_TokenPlaces.T18 := by kernel_rfl
theorem wisplaw09_TokenPlaces.bits18 : waitsOk wisplaw09_TokenPlaces.T18.2 wisplaw09_TokenPlaces.B18 = true := by kernel_rfl
def wisplaw09_TokenPlaces.T21 : Bool × List (List Nat × List Nat) := (true, [([], []), ([0], [0]), ([1], [1]), ([2], [2]), ([3, 2], [2, 3]), ([2], [2]), ([5, 2], [2, 5]), ([4, 6, 2], [2, 4, 6]), ([2, 7], [2, 7]), ([8, 2], [8]), ([9], [9]), ([9], [9]), ([10, 11, 9], [9, 10, 11]), ([12, 9], [9, 12]), ([9], [9]), ([9], [9]), ([14, 15, 9], [9, 14, 15]), ([16, 9], [9, 16]), ([13, 17, 9], [9, 13, 17]), ([9, 18], [9, 18])])
def wisplaw09_TokenPlaces.B21 : List Nat := [0, 1, 3, 7, 15, 7, 39, 127, 255, 511, 1023, 1023, 4095, 8191, 1023, 1023, 50175, 115711, 262143, 524287]
theorem wisplaw09_TokenPlaces.tab21 : rtab .any (opsOf Try.f6 21) = wisplaw09_TokenPlaces.T21 := by kernel_rfl
theorem wisplaw09_TokenPlaces.bits21 : waitsOk wisplaw09_TokenPlaces.T21.2 wisplaw09_TokenPlaces.B21 = true := by kernel_rfl
set_option maxHeartbeats 8000000 in
set_option maxRecDepth 100000 in
theorem wisplaw09_TokenPlaces.calls (k : Nat) (a0 : ByteArray) (r : Bool) (w : World) (h : wisplaw09_TokenPlaces.f k a0 = some r) :
    Calls Try.prog 6 #[.string a0] w fun e w' => e = .returned (.bool r) ∧ Below w.heap.size w w' := by
  have hu24 := Try.underlying24
  have hu30 := Try.underlying30
  have HB := Aside0.mk (Below.refl w.heap.size w)
  have H : (if (a0.size : Int) > 3000 then (if 0 ≤ 3000 then (if 3000 ≤ (a0.size : Int) then (wisplaw09_TokenPlaces.j0 k (a0.extract 0 3000)) else (none)) else (none)) else (wisplaw09_TokenPlaces.j0 k a0)) = some r := h
  clear h
  have HC2 := Aside0.mk H
  clear H
  go_enter Try.func6, Try.ntmps6
  go_upto_if 19 with (fail)
  go_cut [0] (fun v0 wc => ∃ (kq : Nat) (x0_1 : ByteArray), v0 = .string x0_1 ∧ Aside0 (wisplaw09_TokenPlaces.j0 kq x0_1 = some r) ∧ Aside0 (kq ≤ k) ∧ Aside0 (Below w.heap.size w wc))
  case first =>
    have H := HC2.out
    clear HC2
    by_cases c3 : (a0.size : Int) > 3000
    · rw [if_pos c3] at H
      have c3b0 : decide (3000 < (a0.size : Int)) = true := decide_eq_true c3
      have c3b1 : decide (3000 < a0.size) = true := decide_eq_true (by omega)
      clear c3
      (first | rw [c3b0] | (simp only [i64_w, i32_w]; rw [c3b0]) | skip)
      by_cases c4 : 0 ≤ 3000
      · rw [if_pos c4] at H
        have c4b0 := eq_true c4
        have c4b1 : decide (0 ≤ 3000) = true := decide_eq_true c4
        clear c4
        by_cases c5 : 3000 ≤ (a0.size : Int)
        · rw [if_pos c5] at H
          have c5b0 := eq_true c5
          have c5b1 : decide (3000 ≤ (a0.size : Int)) = true := decide_eq_true c5
          clear c5
          have H' := Aside0.mk H
          clear H
          go_wp2
          go_meet
          case rel => exact ⟨_, (a0.extract 0 3000), (by first | rfl | (simp; done) | (simp [*]; done) | (simp [isEmpty_ne]; done)), H', ⟨by first | omega | exact Nat.le_refl _⟩, ⟨by repeat (first | (with_reducible first | exact HB.out | apply below_alloc | apply pw_below_drewN | apply below_drew1) | exact HB.out)⟩⟩
        · rw [if_neg c5] at H
          exact absurd H (by simp)
      · rw [if_neg c4] at H
        exact absurd H (by simp)
    · rw [if_neg c3] at H
      have c3b0 : decide (3000 < (a0.size : Int)) = false := decide_eq_false c3
      have c3b1 : decide (3000 < a0.size) = false := decide_eq_false (by omega)
      clear c3
      (first | rw [c3b0] | (simp only [i64_w, i32_w]; rw [c3b0]) | skip)
      have H' := Aside0.mk H
      clear H
      go_wp2
      go_meet
      case rel => exact ⟨_, (a0), (by first | rfl | (simp; done) | (simp [*]; done) | (simp [isEmpty_ne]; done)), H', ⟨by first | omega | exact Nat.le_refl _⟩, ⟨by repeat (first | (with_reducible first | exact HB.out | apply below_alloc | apply pw_below_drewN | apply below_drew1) | exact HB.out)⟩⟩
  case rest =>
    clear HC2
    try clear p2
    try clear c3
    try clear c3b0
    try clear c3b1
    try clear c4
    try clear c4b0
    try clear c4b1
    try clear c5
    try clear c5b0
    try clear c5b1
    obtain ⟨kq, x0_1, rfl, HA, HJ1, HB⟩ := hcut
    cases kq with
    | zero => exact absurd HA.out (by simp [wisplaw09_TokenPlaces.j0])
    | succ kj1 =>
      have H := HA.out
      clear HA
      simp only [wisplaw09_TokenPlaces.j0] at H
      replace H := Option.bind_eq_some_iff.mp H
      obtain ⟨⟨t178, t181, t182, t183⟩, A60, H⟩ := H
      replace H : ((wisplaw09_fixed.f kj1).bind fun t185 => (if t185 = true then (if t183 = 0 then (wisplaw09_TokenPlaces.l0 kj1 x0_1 t178 0 0 t181 t182) else ((wisplaw09_offset.f kj1 x0_1 t181 t182).bind fun t186 => (if t186 < 0 then (none) else (if (t178.length : Int) = 0 then (if t183 = 91 then (wisplaw09_TokenPlaces.j1 kj1 x0_1 t186 false t181 t182) else (if t183 = 92 then (wisplaw09_TokenPlaces.j1 kj1 x0_1 t186 false t181 t182) else (if t183 = 93 then (wisplaw09_TokenPlaces.j1 kj1 x0_1 t186 false t181 t182) else (wisplaw09_TokenPlaces.j1 kj1 x0_1 t186 (t183 != 21) t181 t182)))) else (none))))) else (none))) = some r := H
      have A6 := Aside0.mk A60
      clear A60
      replace H := Option.bind_eq_some_iff.mp H
      obtain ⟨t185, A70, H⟩ := H
      replace H : (if t185 = true then (if t183 = 0 then (wisplaw09_TokenPlaces.l0 kj1 x0_1 t178 0 0 t181 t182) else ((wisplaw09_offset.f kj1 x0_1 t181 t182).bind fun t186 => (if t186 < 0 then (none) else (if (t178.length : Int) = 0 then (if t183 = 91 then (wisplaw09_TokenPlaces.j1 kj1 x0_1 t186 false t181 t182) else (if t183 = 92 then (wisplaw09_TokenPlaces.j1 kj1 x0_1 t186 false t181 t182) else (if t183 = 93 then (wisplaw09_TokenPlaces.j1 kj1 x0_1 t186 false t181 t182) else (wisplaw09_TokenPlaces.j1 kj1 x0_1 t186 (t183 != 21) t181 t182)))) else (none))))) else (none)) = some r := H
      have A7 := Aside0.mk A70
      clear A70
      by_cases c8 : t185 = true
      · subst c8
        have H1 : (if t183 = 0 then (wisplaw09_TokenPlaces.l0 kj1 x0_1 t178 0 0 t181 t182) else ((wisplaw09_offset.f kj1 x0_1 t181 t182).bind fun t186 => (if t186 < 0 then (none) else (if (t178.length : Int) = 0 then (if t183 = 91 then (wisplaw09_TokenPlaces.j1 kj1 x0_1 t186 false t181 t182) else (if t183 = 92 then (wisplaw09_TokenPlaces.j1 kj1 x0_1 t186 false t181 t182) else (if t183 = 93 then (wisplaw09_TokenPlaces.j1 kj1 x0_1 t186 false t181 t182) else (wisplaw09_TokenPlaces.j1 kj1 x0_1 t186 (t183 != 21) t181 t182)))) else (none))))) = some r := by rw [if_pos rfl] at H; exact H
        clear H
        have H := H1
        clear H1
        by_cases c9 : t183 = 0
        · rw [if_pos c9] at H
          have c9b0 : (t183 == 0) = true := beq_iff_eq.mpr c9
          have c9b1 : (t183 != 0) = false := bne_eq_false_iff_eq.mpr c9
          clear c9
          have H' := Aside0.mk H
          clear H
          go_wp2_with (first | ((with_reducible refine gate_callee (f := 8) rfl ?_); refine goesL_ (some 24) rfl rfl Try.func8 (by kernel_rfl) rfl #[.string x0_1] rfl (by (try simp only [List.map_toArray, List.map_cons, List.map_nil]); first | done | rfl | (simp only [List.length_drop, List.length_take]; rfl)) ?_; (with_reducible refine (token_Scan.calls kj1 x0_1 t178 t181 t182 t183 _ A6.out).mono ?_); rintro e w10 ⟨v179, rfl, ho0, hb⟩; refine ⟨_, rfl, ?_⟩; have n0_ := Aside0.mk (Kd.R_lower ho0 (below_size (by repeat (first | (with_reducible first | exact HB.out | apply below_alloc | apply pw_below_drewN | apply below_drew1) | exact HB.out)))); have n1_ := Aside0.mk (below_step (by repeat (first | (with_reducible first | exact HB.out | apply below_alloc | apply pw_below_drewN | apply below_drew1) | exact HB.out)) hb); clear HB; have HO180 := n0_; have HB := n1_; clear n0_ n1_; (try clear hb); (try clear hb2); (try clear hk); (try clear hi); (try clear ho0)) | ((with_reducible refine gate_dst (N := 4) rfl ?_); (try (refine gate_guard (by rfl) ?_; dsimp only)); refine box_event ?hg (N := 4) ?hd (cs := #[.int .i64 0, .int .i64 0]) (t := 24) ?hr ?_; (case hd => rfl); (case hg => rfl); (case hr => first | (go_simp; done) | (go_simp; rfl)); intro gb184 hg w11 hbox hb; have n0_ := Aside0.mk (Kd.R_below (by (with_reducible repeat (first | apply Kd.R_alloc | apply Kd.R_drewN | apply Kd.R_drew)); exact HO180.out) hb); have n1_ := Aside0.mk (below_step (by repeat (first | (with_reducible first | exact HB.out | apply below_alloc | apply pw_below_drewN | apply below_drew1) | exact HB.out)) hb); have n2_ := Aside0.mk (hbox); have n3_ := Aside0.mk ((by rw [hg]; exact (below_size (by repeat (first | (with_reducible first | exact HB.out | apply below_alloc | apply pw_below_drewN | apply below_drew1) | exact HB.out))) : w.heap.size ≤ gb184)); have n4_ := Aside0.mk ((by rw [hg]; exact (below_size (by repeat (first | (with_reducible first | exact HB.out | apply below_alloc | apply pw_below_drewN | apply below_drew1) | exact HB.out))) : w.heap.size ≤ gb184)); clear HO180; clear HB; have HO180 := n0_; have HB := n1_; have BK184 := n2_; have GW184 := n3_; have GE184 := n4_; clear n0_ n1_ n2_ n3_ n4_; clear hb hbox hg; have hcz12_0 : w11.cell? ⟨gb184, 0, none⟩ = some (.int .i64 0) := (blk_cell BK184.out 0).trans rfl; have hcz12_1 : w11.cell? ⟨gb184, 1, none⟩ = some (.int .i64 0) := (blk_cell BK184.out 1).trans rfl; have hfz12_0 := blk_frozen BK184.out 0; have hfz12_1 := blk_frozen BK184.out 1) | ((with_reducible refine gate_callee (f := 9) rfl ?_); refine goesL_ (some 28) rfl rfl Try.func9 (by kernel_rfl) rfl #[] rfl (by (try simp only [List.map_toArray, List.map_cons, List.map_nil]); first | done | rfl | (simp only [List.length_drop, List.length_take]; rfl)) ?_; (with_reducible refine (wisplaw09_fixed.calls kj1  true _ A7.out).mono ?_); rintro e w13 ⟨rfl, hb⟩; refine ⟨_, rfl, ?_⟩; have n0_ := Aside0.mk (Kd.R_below (by (with_reducible repeat (first | apply Kd.R_alloc | apply Kd.R_drewN | apply Kd.R_drew)); exact (Kd.R_mono (Kd.R_far (p := ⟨gb184, 1, none⟩) (Kd.R_far (p := ⟨gb184, 0, none⟩) (Kd.R_types HO180.out BK184.out (by decide)) (fun _ hk => hk.2) (.int .i64 t181)) (fun _ hk => hk.2) (.int .i64 t182)) (fun _ h_ => h_.1))) hb); have n1_ := Aside0.mk (blk_below (g := gb184) (o := .cells #[.int .i64 t181, .int .i64 t182] 24 (0, 0)) (by (with_reducible repeat (first | refine blk_drewN ?_ _ | refine blk_drew ?_ | refine blk_alloc ?_ _)); refine blk_put (cs := #[.int .i64 t181, .int .i64 0]) ?_ 1 _ rfl; (with_reducible repeat (first | refine blk_drewN ?_ _ | refine blk_drew ?_ | refine blk_alloc ?_ _)); refine blk_put (cs := #[.int .i64 0, .int .i64 0]) ?_ 0 _ rfl; (with_reducible repeat (first | refine blk_drewN ?_ _ | refine blk_drew ?_ | refine blk_alloc ?_ _)); exact BK184.out) hb); have n2_ := Aside0.mk (below_step (by repeat (first | (with_reducible first | exact HB.out | apply below_alloc | apply pw_below_drewN | apply below_drew1 | refine below_set ?_ GE184.out) | exact HB.out)) hb); clear HO180; clear BK184; clear HB; have HO180 := n0_; have BK184 := n1_; have HB := n2_; clear n0_ n1_ n2_; (try clear hb); (try clear hb2); (try clear hk); (try clear hi)))
          go_loopg [10, 11] kj1 (fun kq v10 v11 w' => ∃ (x10_2 : Int) (x11_2 : Int), v10 = .int .i64 x10_2 ∧ v11 = .int .i64 x11_2 ∧ Aside0 (wisplaw09_TokenPlaces.l0 kq x0_1 t178 x10_2 x11_2 t181 t182 = some r) ∧ Aside0 (kq ≤ kj1) ∧ Aside0 (Kd.R k30 30 w' w.heap.size (fun _ => True) v179 t178) ∧ Aside0 (w'.heap[gb184]? = some (.cells #[.int .i64 t181, .int .i64 t182] 24 (0, 0))) ∧ Aside0 (Below w.heap.size w w'))
          case atStart => exact ⟨(0), (0), (by first | rfl | (simp; done) | (simp [*]; done) | (simp [isEmpty_ne]; done)), (by first | rfl | (simp; done) | (simp [*]; done) | (simp [isEmpty_ne]; done)), H', ⟨Nat.le_refl _⟩, ⟨by (with_reducible repeat (first | apply Kd.R_alloc | apply Kd.R_drewN | apply Kd.R_drew)); exact HO180.out⟩, ⟨by (with_reducible repeat (first | refine blk_drewN ?_ _ | refine blk_drew ?_ | refine blk_alloc ?_ _)); exact BK184.out⟩, ⟨by repeat (first | (with_reducible first | exact HB.out | apply below_alloc | apply pw_below_drewN | apply below_drew1 | refine below_set ?_ GE184.out) | exact HB.out)⟩⟩
          case round =>
            clear H'
            try clear p2
            try clear c3
            try clear c3b0
            try clear c3b1
            try clear c4
            try clear c4b0
            try clear c4b1
            try clear c5
            try clear c5b0
            try clear c5b1
            try clear c6
            try clear c8
            try clear c9
            try clear c9b0
            try clear c9b1
            try clear hcz12_0
            try clear hcz12_1
            try clear hfz12_0
            try clear hfz12_1
            try clear p2
            obtain ⟨x10_2, x11_2, rfl, rfl, HA, HK2, HO_3, BK184, HB⟩ := hrel
            cases gk with
            | zero => exact absurd HA.out (by simp [wisplaw09_TokenPlaces.l0])
            | succ k2 =>
              have H := HA.out
              clear HA
              simp only [wisplaw09_TokenPlaces.l0] at H
              have HC14 := Aside0.mk H
              clear H
              go_upto_region 14 with (fail)
              go_cut [83] (fun v83 wc => ∃ (kq : Nat) (x83_13 : Bool), v83 = .bool x83_13 ∧ Aside0 (wisplaw09_TokenPlaces.j3 kq x0_1 t178 x10_2 x11_2 x83_13 t181 t182 = some r) ∧ Aside0 (kq ≤ k2) ∧ Aside0 (Kd.R k30 30 wc w.heap.size (fun _ => True) v179 t178) ∧ Aside0 (wc.heap[gb184]? = some (.cells #[.int .i64 t181, .int .i64 t182] 24 (0, 0))) ∧ Aside0 (Below w.heap.size w wc))
              case first =>
                have H := HC14.out
                clear HC14
                by_cases c15 : x11_2 < (t178.length : Int)
                · rw [if_pos c15] at H
                  have c15b0 : decide (x11_2 < (t178.length : Int)) = true := decide_eq_true c15
                  clear c15
                  (first | rw [c15b0] | (simp only [i64_w, i32_w]; rw [c15b0]) | skip)
                  have H' := Aside0.mk H
                  clear H
                  obtain ⟨Ao16, co16, eo16⟩ := Kd.R_slice HO_3.out
                  subst eo16
                  go_wp2
                  go_meet
                  case rel => exact ⟨_, (decide (x11_2 < 200)), (by first | rfl | (simp; done) | (simp [*]; done) | (simp [isEmpty_ne]; done)), H', ⟨by have := HJ1.out; have := HK2.out; first | omega | exact Nat.le_refl _⟩, ⟨by (with_reducible repeat (first | apply Kd.R_alloc | apply Kd.R_drewN | apply Kd.R_drew)); exact HO_3.out⟩, ⟨by (with_reducible repeat (first | refine blk_drewN ?_ _ | refine blk_drew ?_ | refine blk_alloc ?_ _)); exact BK184.out⟩, ⟨by repeat (first | (with_reducible first | exact HB.out | apply below_alloc | apply pw_below_drewN | apply below_drew1 | refine below_set ?_ GE184.out) | exact HB.out)⟩⟩
                · rw [if_neg c15] at H
                  have c15b0 : decide (x11_2 < (t178.length : Int)) = false := decide_eq_false c15
                  clear c15
                  (first | rw [c15b0] | (simp only [i64_w, i32_w]; rw [c15b0]) | skip)
                  have H' := Aside0.mk H
                  clear H
                  obtain ⟨Ao17, co17, eo17⟩ := Kd.R_slice HO_3.out
                  subst eo17
                  go_wp2
                  go_meet
                  case rel => exact ⟨_, (false), (by first | rfl | (simp; done) | (simp [*]; done) | (simp [isEmpty_ne]; done)), H', ⟨by have := HJ1.out; have := HK2.out; first | omega | exact Nat.le_refl _⟩, ⟨by (with_reducible repeat (first | apply Kd.R_alloc | apply Kd.R_drewN | apply Kd.R_drew)); exact HO_3.out⟩, ⟨by (with_reducible repeat (first | refine blk_drewN ?_ _ | refine blk_drew ?_ | refine blk_alloc ?_ _)); exact BK184.out⟩, ⟨by repeat (first | (with_reducible first | exact HB.out | apply below_alloc | apply pw_below_drewN | apply below_drew1 | refine below_set ?_ GE184.out) | exact HB.out)⟩⟩
              case rest =>
                clear HC14
                try clear c1
                try clear p2
                try clear c3
                try clear c3b0
                try clear c3b1
                try clear c4
                try clear c4b0
                try clear c4b1
                try clear c5
                try clear c5b0
                try clear c5b1
                try clear c6
                try clear c8
                try clear c9
                try clear c9b0
                try clear c9b1
                try clear c15
                try clear c15b0
                try clear hcz12_0
                try clear hcz12_1
                try clear hfz12_0
                try clear hfz12_1
                try clear p2
                obtain ⟨kq, x83_13, rfl, HA, HJ13, HO_3, BK184, HB⟩ := hcut
                cases kq with
                | zero => exact absurd HA.out (by simp [wisplaw09_TokenPlaces.j3])
                | succ kj13 =>
                  have H := HA.out
                  clear HA
                  simp only [wisplaw09_TokenPlaces.j3] at H
                  by_cases c18 : x83_13 = true
                  · subst c18
                    have H1 : (if 0 ≤ x11_2 then (if x11_2 < (t178.length : Int) then ((wisplaw09_offset.f kj13 x0_1 ((rd_T30 t178 x11_2).f3.f0) ((rd_T30 t178 x11_2).f3.f1)).bind fun t197 => (if t197 < x10_2 then (none) else (if (((rd_T30 t178 x11_2).f1).size : Int) < 1 then (none) else (if (((rd_T30 t178 x11_2).f1).size : Int) > 31 then (none) else (if (wrap64 (t197 + (((rd_T30 t178 x11_2).f1).size : Int))) > (x0_1.size : Int) then (none) else (if 0 ≤ t197 then (if t197 ≤ (wrap64 (t197 + (((rd_T30 t178 x11_2).f1).size : Int))) then (if (wrap64 (t197 + (((rd_T30 t178 x11_2).f1).size : Int))) ≤ (x0_1.size : Int) then (if (x0_1.extract (t197 : Int).toNat ((wrap64 (t197 + (((rd_T30 t178 x11_2).f1).size : Int))) : Int).toNat).toList = ((rd_T30 t178 x11_2).f1).toList then (if t197 ≤ (x0_1.size : Int) then ((token_End.f kj13 (x0_1.extract 0 (t197 : Int).toNat)).bind fun bt200 => (wisplaw09_TokenPlaces.j4 kj13 x0_1 t178 x11_2 t197 (((rd_T30 t178 x11_2).f1).size : Int) (!(bt200.1 == ((rd_T30 t178 x11_2).f3.f0)) || (!(bt200.2 == ((rd_T30 t178 x11_2).f3.f1)))) t181 t182)) else (none)) else (none)) else (none)) else (none)) else (none))))))) else (none)) else (none)) = some r := by rw [if_pos rfl] at H; exact H
                    clear H
                    have H := H1
                    clear H1
                    by_cases c19 : 0 ≤ x11_2
                    · rw [if_pos c19] at H
                      have c19b0 : decide (0 ≤ x11_2) = true := decide_eq_true c19
                      clear c19
                      by_cases c20 : x11_2 < (t178.length : Int)
                      · rw [if_pos c20] at H
                        have c20b0 : decide (x11_2 < (t178.length : Int)) = true := decide_eq_true c20
                        clear c20
                        replace H := Option.bind_eq_some_iff.mp H
                        obtain ⟨t197, A210, H⟩ := H
                        replace H : (if t197 < x10_2 then (none) else (if (((rd_T30 t178 x11_2).f1).size : Int) < 1 then (none) else (if (((rd_T30 t178 x11_2).f1).size : Int) > 31 then (none) else (if (wrap64 (t197 + (((rd_T30 t178 x11_2).f1).size : Int))) > (x0_1.size : Int) then (none) else (if 0 ≤ t197 then (if t197 ≤ (wrap64 (t197 + (((rd_T30 t178 x11_2).f1).size : Int))) then (if (wrap64 (t197 + (((rd_T30 t178 x11_2).f1).size : Int))) ≤ (x0_1.size : Int) then (if (x0_1.extract (t197 : Int).toNat ((wrap64 (t197 + (((rd_T30 t178 x11_2).f1).size : Int))) : Int).toNat).toList = ((rd_T30 t178 x11_2).f1).toList then (if t197 ≤ (x0_1.size : Int) then ((token_End.f kj13 (x0_1.extract 0 (t197 : Int).toNat)).bind fun bt200 => (wisplaw09_TokenPlaces.j4 kj13 x0_1 t178 x11_2 t197 (((rd_T30 t178 x11_2).f1).size : Int) (!(bt200.1 == ((rd_T30 t178 x11_2).f3.f0)) || (!(bt200.2 == ((rd_T30 t178 x11_2).f3.f1)))) t181 t182)) else (none)) else (none)) else (none)) else (none)) else (none)))))) = some r := H
                        have A21 := Aside0.mk A210
                        clear A210
                        have HC22 := Aside0.mk H
                        clear H
                        obtain ⟨Ao23, co23, eo23⟩ := Kd.R_slice HO_3.out
                        subst eo23
                        have p196 : 0 ≤ (x11_2 : Int) := of_decide_eq_true (by first | (with_reducible assumption) | assumption)
                        have q196 : x11_2 < (t178.length : Int) := of_decide_eq_true (by first | (with_reducible assumption) | assumption)
                        obtain ⟨ad196, e196, hx196_0, hx196_1, hx196_2, hx196_3, hx196_4⟩ := at_T30 (Kd.R_reads' HO_3.out).2.2 x11_2 p196 q196
                        cases e196
                        replace p196 := eq_true p196
                        replace q196 := eq_true q196
                        go_upto_region 18 with (first | ((with_reducible refine gate_callee (f := 18) rfl ?_); refine goesL_ (some 92) rfl rfl Try.func18 (by kernel_rfl) rfl #[.string x0_1, .agg #[.int .i64 ((rd_T30 t178 x11_2).f3.f0), .int .i64 ((rd_T30 t178 x11_2).f3.f1)]] rfl (by (try simp only [List.map_toArray, List.map_cons, List.map_nil]); first | done | rfl | (simp only [List.length_drop, List.length_take]; rfl)) ?_; (with_reducible refine (wisplaw09_offset.calls kj13 x0_1 ((rd_T30 t178 x11_2).f3.f0) ((rd_T30 t178 x11_2).f3.f1) t197 _ A21.out).mono ?_); rintro e w24 ⟨rfl, hb⟩; refine ⟨_, rfl, ?_⟩; have n0_ := Aside0.mk (Kd.R_below (by (with_reducible repeat (first | apply Kd.R_alloc | apply Kd.R_drewN | apply Kd.R_drew)); exact HO_3.out) hb); have n1_ := Aside0.mk (blk_below (g := gb184) (o := .cells #[.int .i64 t181, .int .i64 t182] 24 (0, 0)) (by (with_reducible repeat (first | refine blk_drewN ?_ _ | refine blk_drew ?_ | refine blk_alloc ?_ _)); exact BK184.out) hb); have n2_ := Aside0.mk (below_step (by repeat (first | (with_reducible first | exact HB.out | apply below_alloc | apply pw_below_drewN | apply below_drew1 | refine below_set ?_ GE184.out) | exact HB.out)) hb); clear HO_3; clear BK184; clear HB; have HO_3 := n0_; have BK184 := n1_; have HB := n2_; clear n0_ n1_ n2_; (try clear hb); (try clear hb2); (try clear hk); (try clear hi); have p198 : 0 ≤ (x11_2 : Int) := of_decide_eq_true (by first | (with_reducible assumption) | assumption); have q198 : x11_2 < (t178.length : Int) := of_decide_eq_true (by first | (with_reducible assumption) | assumption); obtain ⟨ad198, e198, hx198_0, hx198_1, hx198_2, hx198_3, hx198_4⟩ := at_T30 (Kd.R_reads' HO_3.out).2.2 x11_2 p198 q198; obtain rfl : ad196 = ad198 := (by injection e198); replace p198 := eq_true p198; replace q198 := eq_true q198))
                        (try simp only [Act.put, List.setIfInBounds_toArray, List.set_cons_zero, List.set_cons_succ])
                        go_cut [143] (fun v143 wc => ∃ (kq : Nat) (x143_21 : Bool), v143 = .bool x143_21 ∧ Aside0 (wisplaw09_TokenPlaces.j4 kq x0_1 t178 x11_2 t197 (((rd_T30 t178 x11_2).f1).size : Int) x143_21 t181 t182 = some r) ∧ Aside0 (kq ≤ kj13) ∧ Aside0 (Kd.R k30 30 wc w.heap.size (fun _ => True) (.slice (some ad196) t178.length co23) t178) ∧ Aside0 (wc.heap[gb184]? = some (.cells #[.int .i64 t181, .int .i64 t182] 24 (0, 0))) ∧ Aside0 (Below w.heap.size w wc))
                        case first =>
                          have H := HC22.out
                          clear HC22
                          by_cases c25 : t197 < x10_2
                          · rw [if_pos c25] at H
                            exact absurd H (by simp)
                          · rw [if_neg c25] at H
                            have c25b0 : decide (t197 < x10_2) = false := decide_eq_false c25
                            clear c25
                            (first | rw [c25b0] | (simp only [i64_w, i32_w]; rw [c25b0]) | skip)
                            by_cases c27 : (((rd_T30 t178 x11_2).f1).size : Int) < 1
                            · rw [if_pos c27] at H
                              exact absurd H (by simp)
                            · rw [if_neg c27] at H
                              have c27b0 : decide ((((rd_T30 t178 x11_2).f1).size : Int) < 1) = false := decide_eq_false c27
                              have c27b1 : decide (((rd_T30 t178 x11_2).f1).size < 1) = false := decide_eq_false (by omega)
                              clear c27
                              by_cases c29 : (((rd_T30 t178 x11_2).f1).size : Int) > 31
                              · rw [if_pos c29] at H
                                exact absurd H (by simp)
                              · rw [if_neg c29] at H
                                have c29b0 : decide (31 < (((rd_T30 t178 x11_2).f1).size : Int)) = false := decide_eq_false c29
                                have c29b1 : decide (31 < ((rd_T30 t178 x11_2).f1).size) = false := decide_eq_false (by omega)
                                clear c29
                                by_cases c31 : (wrap64 (t197 + (((rd_T30 t178 x11_2).f1).size : Int))) > (x0_1.size : Int)
                                · rw [if_pos c31] at H
                                  exact absurd H (by simp)
                                · rw [if_neg c31] at H
                                  have c31b0 : decide ((x0_1.size : Int) < (wrap64 (t197 + (((rd_T30 t178 x11_2).f1).size : Int)))) = false := decide_eq_false c31
                                  clear c31
                                  by_cases c33 : 0 ≤ t197
                                  · rw [if_pos c33] at H
                                    have c33b0 := eq_true c33
                                    have c33b1 : decide (0 ≤ t197) = true := decide_eq_true c33
                                    clear c33
                                    by_cases c34 : t197 ≤ (wrap64 (t197 + (((rd_T30 t178 x11_2).f1).size : Int)))
                                    · rw [if_pos c34] at H
                                      have c34b0 := eq_true c34
                                      have c34b1 : decide (t197 ≤ (wrap64 (t197 + (((rd_T30 t178 x11_2).f1).size : Int)))) = true := decide_eq_true c34
                                      by_cases c35 : (wrap64 (t197 + (((rd_T30 t178 x11_2).f1).size : Int))) ≤ (x0_1.size : Int)
                                      · rw [if_pos c35] at H
                                        have c35b0 := eq_true c35
                                        have c35b1 : decide ((wrap64 (t197 + (((rd_T30 t178 x11_2).f1).size : Int))) ≤ (x0_1.size : Int)) = true := decide_eq_true c35
                                        by_cases c36 : (x0_1.extract (t197 : Int).toNat ((wrap64 (t197 + (((rd_T30 t178 x11_2).f1).size : Int))) : Int).toNat).toList = ((rd_T30 t178 x11_2).f1).toList
                                        · rw [if_pos c36] at H
                                          have c36b0 : ((x0_1.extract (t197 : Int).toNat ((wrap64 (t197 + (((rd_T30 t178 x11_2).f1).size : Int))) : Int).toNat).toList == ((rd_T30 t178 x11_2).f1).toList) = true := beq_iff_eq.mpr c36
                                          have c36b1 : ((x0_1.extract (t197 : Int).toNat ((wrap64 (t197 + (((rd_T30 t178 x11_2).f1).size : Int))) : Int).toNat).toList != ((rd_T30 t178 x11_2).f1).toList) = false := bne_eq_false_iff_eq.mpr c36
                                          clear c36
                                          have c37b0 := eq_true (of_decide_eq_true (by first | (with_reducible assumption) | assumption) : 0 ≤ t197)
                                          by_cases c38 : t197 ≤ (x0_1.size : Int)
                                          · rw [if_pos c38] at H
                                            have c38b0 := eq_true c38
                                            have c38b1 : decide (t197 ≤ (x0_1.size : Int)) = true := decide_eq_true c38
                                            clear c38
                                            replace H := Option.bind_eq_some_iff.mp H
                                            obtain ⟨⟨t200, t201⟩, A390, H⟩ := H
                                            replace H : (wisplaw09_TokenPlaces.j4 kj13 x0_1 t178 x11_2 t197 (((rd_T30 t178 x11_2).f1).size : Int) (!(t200 == ((rd_T30 t178 x11_2).f3.f0)) || (!(t201 == ((rd_T30 t178 x11_2).f3.f1)))) t181 t182) = some r := H
                                            have A39 := Aside0.mk A390
                                            clear A390
                                            have H' := Aside0.mk H
                                            clear H
                                            try go_wp2
                                            have n0_ := Aside0.mk (Kd.R_drew HO_3.out)
                                            have n1_ := Aside0.mk (blk_drew BK184.out)
                                            have n2_ := Aside0.mk (below_drew1 HB.out)
                                            clear HO_3
                                            clear BK184
                                            clear HB
                                            have HO_3 := n0_
                                            have BK184 := n1_
                                            have HB := n2_
                                            clear n0_ n1_ n2_
                                            have p199 : 0 ≤ (x11_2 : Int) := of_decide_eq_true (by first | (with_reducible assumption) | assumption)
                                            have q199 : x11_2 < (t178.length : Int) := of_decide_eq_true (by first | (with_reducible assumption) | assumption)
                                            obtain ⟨ad199, e199, hx199_0, hx199_1, hx199_2, hx199_3, hx199_4⟩ := at_T30 (Kd.R_reads' HO_3.out).2.2 x11_2 p199 q199
                                            obtain rfl : ad196 = ad199 := (by injection e199)
                                            replace p199 := eq_true p199
                                            replace q199 := eq_true q199
                                            have p202 : 0 ≤ (x11_2 : Int) := of_decide_eq_true (by first | (with_reducible assumption) | assumption)
                                            have q202 : x11_2 < (t178.length : Int) := of_decide_eq_true (by first | (with_reducible assumption) | assumption)
                                            obtain ⟨ad202, e202, hx202_0, hx202_1, hx202_2, hx202_3, hx202_4⟩ := at_T30 (Kd.R_reads' HO_3.out).2.2 x11_2 p202 q202
                                            obtain rfl : ad196 = ad202 := (by injection e202)
                                            replace p202 := eq_true p202
                                            replace q202 := eq_true q202
                                            refine start_ (n := 45) (S := fun w' => w'.cell? (ad196.add ((x11_2).toNat * 5)) = some (.int .i64 ((rd_T30 t178 x11_2).f0)) ∧ w'.cell? ⟨(ad196.add ((x11_2).toNat * 5)).block, (ad196.add ((x11_2).toNat * 5)).off + 1, none⟩ = some (.string ((rd_T30 t178 x11_2).f1)) ∧ w'.cell? ⟨(ad196.add ((x11_2).toNat * 5)).block, (ad196.add ((x11_2).toNat * 5)).off + 2, none⟩ = some (.int .u16 ((rd_T30 t178 x11_2).f2)) ∧ w'.cell? ⟨(ad196.add ((x11_2).toNat * 5)).block, (ad196.add ((x11_2).toNat * 5)).off + 3, none⟩ = some (.int .i64 ((rd_T30 t178 x11_2).f3.f0)) ∧ w'.cell? ⟨(ad196.add ((x11_2).toNat * 5)).block, (ad196.add ((x11_2).toNat * 5)).off + 4, none⟩ = some (.int .i64 ((rd_T30 t178 x11_2).f3.f1)) ∧ w'.cell? (ad196.add ((x11_2).toNat * 5)) = some (.int .i64 ((rd_T30 t178 x11_2).f0)) ∧ w'.cell? ⟨(ad196.add ((x11_2).toNat * 5)).block, (ad196.add ((x11_2).toNat * 5)).off + 1, none⟩ = some (.string ((rd_T30 t178 x11_2).f1)) ∧ w'.cell? ⟨(ad196.add ((x11_2).toNat * 5)).block, (ad196.add ((x11_2).toNat * 5)).off + 2, none⟩ = some (.int .u16 ((rd_T30 t178 x11_2).f2)) ∧ w'.cell? ⟨(ad196.add ((x11_2).toNat * 5)).block, (ad196.add ((x11_2).toNat * 5)).off + 3, none⟩ = some (.int .i64 ((rd_T30 t178 x11_2).f3.f0)) ∧ w'.cell? ⟨(ad196.add ((x11_2).toNat * 5)).block, (ad196.add ((x11_2).toNat * 5)).off + 4, none⟩ = some (.int .i64 ((rd_T30 t178 x11_2).f3.f1))) (ds := []) #[false, false, false, false, false, false, false, false, false, false, false, false, false, false, false, false, false, false, false, false, false, false, false, false, false, false, false, false, false, false, false, false, false, false, false, false, false, false, false, false, false, false, false, false, false] (by kernel_rfl) rfl rfl ⟨hx199_0, hx199_1, hx199_2, hx199_3, hx199_4, hx202_0, hx202_1, hx202_2, hx202_3, hx202_4⟩ (fun hHeld => ?_); refine with_tabW wisplaw09_TokenPlaces.tab18 wisplaw09_TokenPlaces.bits18 (fun HT_ HW_ => ?_)
                                            generalize w24.drew = w40 at HO_3 BK184 HB hx199_0 hx199_1 hx199_2 hx199_3 hx199_4 hx202_0 hx202_1 hx202_2 hx202_3 hx202_4 hHeld ⊢
                                            refine pure_ (i := 0) (N := some 99) (v := ?_) (a' := ?_) #[true, false, false, false, false, false, false, false, false, false, false, false, false, false, false, false, false, false, false, false, false, false, false, false, false, false, false, false, false, false, false, false, false, false, false, false, false, false, false, false, false, false, false, false, false] rfl rfl (any_of HT_.out (by kernel_rfl)) (fun _ _ _ h => h) (Or.inl ⟨by rfl, ?_⟩) ?_ ?_
                                            rotate_left
                                            · intro w'
                                              go_simp
                                              with_reducible rfl
                                            rotate_left
                                            · simp only [Act.put, List.setIfInBounds_toArray, List.set_cons_zero, List.set_cons_succ, i64_w, i32_w]
                                              rfl
                                            refine pure_ (i := 1) (N := some 100) (v := ?_) (a' := ?_) #[true, true, false, false, false, false, false, false, false, false, false, false, false, false, false, false, false, false, false, false, false, false, false, false, false, false, false, false, false, false, false, false, false, false, false, false, false, false, false, false, false, false, false, false, false] rfl rfl (any_of HT_.out (by kernel_rfl)) (fun _ _ _ h => h) (Or.inl ⟨by rfl, ?_⟩) ?_ ?_
                                            rotate_left
                                            · intro w'
                                              go_simp
                                              with_reducible rfl
                                            rotate_left
                                            · simp only [Act.put, List.setIfInBounds_toArray, List.set_cons_zero, List.set_cons_succ, i64_w, i32_w]
                                              rfl
                                            refine pure_ (i := 2) (N := some 101) (v := ?_) (a' := ?_) #[true, true, true, false, false, false, false, false, false, false, false, false, false, false, false, false, false, false, false, false, false, false, false, false, false, false, false, false, false, false, false, false, false, false, false, false, false, false, false, false, false, false, false, false, false] rfl rfl (any_of HT_.out (by kernel_rfl)) (fun _ _ _ h => h) (Or.inl ⟨by rfl, ?_⟩) ?_ ?_
                                            rotate_left
                                            · intro w'
                                              go_simp
                                              with_reducible rfl
                                            rotate_left
                                            · simp only [Act.put, List.setIfInBounds_toArray, List.set_cons_zero, List.set_cons_succ, i64_w, i32_w]
                                              rfl
                                            refine pure_ (i := 3) (N := some 102) (v := ?_) (a' := ?_) #[true, true, true, true, false, false, false, false, false, false, false, false, false, false, false, false, false, false, false, false, false, false, false, false, false, false, false, false, false, false, false, false, false, false, false, false, false, false, false, false, false, false, false, false, false] rfl rfl (any_of HT_.out (by kernel_rfl)) (fun _ _ _ h => h) (Or.inl ⟨by rfl, ?_⟩) ?_ ?_
                                            rotate_left
                                            · intro w'
                                              go_simp
                                              with_reducible rfl
                                            rotate_left
                                            · simp only [Act.put, List.setIfInBounds_toArray, List.set_cons_zero, List.set_cons_succ, i64_w, i32_w]
                                              rfl
                                            refine pure_ (i := 4) (N := some 103) (v := ?_) (a' := ?_) #[true, true, true, true, true, false, false, false, false, false, false, false, false, false, false, false, false, false, false, false, false, false, false, false, false, false, false, false, false, false, false, false, false, false, false, false, false, false, false, false, false, false, false, false, false] rfl rfl (any_of HT_.out (by kernel_rfl)) (fun _ _ _ h => h) (Or.inl ⟨by rfl, ?_⟩) ?_ ?_
                                            rotate_left
                                            · intro w'
                                              go_simp
                                              with_reducible rfl
                                            rotate_left
                                            · simp only [Act.put, List.setIfInBounds_toArray, List.set_cons_zero, List.set_cons_succ, i64_w, i32_w]
                                              rfl
                                            refine pure_ (i := 5) (N := some 104) (v := ?_) (a' := ?_) #[true, true, true, true, true, true, false, false, false, false, false, false, false, false, false, false, false, false, false, false, false, false, false, false, false, false, false, false, false, false, false, false, false, false, false, false, false, false, false, false, false, false, false, false, false] rfl rfl (any_of HT_.out (by kernel_rfl)) (fun _ _ _ h => h) (Or.inl ⟨by rfl, ?_⟩) ?_ ?_
                                            rotate_left
                                            · intro w'
                                              go_simp
                                              with_reducible rfl
                                            rotate_left
                                            · simp only [Act.put, List.setIfInBounds_toArray, List.set_cons_zero, List.set_cons_succ, i64_w, i32_w]
                                              rfl
                                            refine pure_ (i := 6) (N := some 105) (v := ?_) (a' := ?_) #[true, true, true, true, true, true, true, false, false, false, false, false, false, false, false, false, false, false, false, false, false, false, false, false, false, false, false, false, false, false, false, false, false, false, false, false, false, false, false, false, false, false, false, false, false] rfl rfl (any_of HT_.out (by kernel_rfl)) (fun _ _ _ h => h) (Or.inl ⟨by rfl, ?_⟩) ?_ ?_
                                            rotate_left
                                            · intro w'
                                              go_simp
                                              with_reducible rfl
                                            rotate_left
                                            · simp only [Act.put, List.setIfInBounds_toArray, List.set_cons_zero, List.set_cons_succ, i64_w, i32_w]
                                              rfl
                                            refine pure_ (i := 7) (N := some 106) (v := ?_) (a' := ?_) #[true, true, true, true, true, true, true, true, false, false, false, false, false, false, false, false, false, false, false, false, false, false, false, false, false, false, false, false, false, false, false, false, false, false, false, false, false, false, false, false, false, false, false, false, false] rfl rfl (any_of HT_.out (by kernel_rfl)) (fun _ _ _ h => h) (Or.inl ⟨by rfl, ?_⟩) ?_ ?_
                                            rotate_left
                                            · intro w'
                                              go_simp
                                              with_reducible rfl
                                            rotate_left
                                            · simp only [Act.put, List.setIfInBounds_toArray, List.set_cons_zero, List.set_cons_succ, i64_w, i32_w]
                                              rfl
                                            refine pure_ (i := 8) (N := some 107) (v := ?_) (a' := ?_) #[true, true, true, true, true, true, true, true, true, false, false, false, false, false, false, false, false, false, false, false, false, false, false, false, false, false, false, false, false, false, false, false, false, false, false, false, false, false, false, false, false, false, false, false, false] rfl rfl (any_of HT_.out (by kernel_rfl)) (fun _ _ _ h => h) (Or.inl ⟨by rfl, ?_⟩) ?_ ?_
                                            rotate_left
                                            · intro w'
                                              go_simp
                                              with_reducible rfl
                                            rotate_left
                                            · simp only [Act.put, List.setIfInBounds_toArray, List.set_cons_zero, List.set_cons_succ, i64_w, i32_w]
                                              rfl
                                            refine pure_ (i := 9) (N := some 108) (v := ?_) (a' := ?_) #[true, true, true, true, true, true, true, true, true, true, false, false, false, false, false, false, false, false, false, false, false, false, false, false, false, false, false, false, false, false, false, false, false, false, false, false, false, false, false, false, false, false, false, false, false] rfl rfl (any_of HT_.out (by kernel_rfl)) (fun _ _ _ h => h) (Or.inl ⟨by rfl, ?_⟩) ?_ ?_
                                            rotate_left
                                            · intro w'
                                              go_simp
                                              with_reducible rfl
                                            rotate_left
                                            · simp only [Act.put, List.setIfInBounds_toArray, List.set_cons_zero, List.set_cons_succ, i64_w, i32_w]
                                              rfl
                                            refine pure_ (i := 10) (N := some 109) (v := ?_) (a' := ?_) #[true, true, true, true, true, true, true, true, true, true, true, false, false, false, false, false, false, false, false, false, false, false, false, false, false, false, false, false, false, false, false, false, false, false, false, false, false, false, false, false, false, false, false, false, false] rfl rfl (any_of HT_.out (by kernel_rfl)) (fun _ _ _ h => h) (Or.inl ⟨by rfl, ?_⟩) ?_ ?_
                                            rotate_left
                                            · intro w'
                                              go_simp
                                              with_reducible rfl
                                            rotate_left
                                            · simp only [Act.put, List.setIfInBounds_toArray, List.set_cons_zero, List.set_cons_succ, i64_w, i32_w]
                                              rfl
                                            refine pure_ (i := 11) (N := some 110) (v := ?_) (a' := ?_) #[true, true, true, true, true, true, true, true, true, true, true, true, false, false, false, false, false, false, false, false, false, false, false, false, false, false, false, false, false, false, false, false, false, false, false, false, false, false, false, false, false, false, false, false, false] rfl rfl (any_of HT_.out (by kernel_rfl)) (fun _ _ _ h => h) (Or.inl ⟨by rfl, ?_⟩) ?_ ?_
                                            rotate_left
                                            · intro w'
                                              go_simp
                                              with_reducible rfl
                                            rotate_left
                                            · simp only [Act.put, List.setIfInBounds_toArray, List.set_cons_zero, List.set_cons_succ, i64_w, i32_w]
                                              rfl
                                            refine pure_ (i := 12) (N := some 111) (v := ?_) (a' := ?_) #[true, true, true, true, true, true, true, true, true, true, true, true, true, false, false, false, false, false, false, false, false, false, false, false, false, false, false, false, false, false, false, false, false, false, false, false, false, false, false, false, false, false, false, false, false] rfl rfl (any_of HT_.out (by kernel_rfl)) (fun _ _ _ h => h) (Or.inl ⟨by rfl, ?_⟩) ?_ ?_
                                            rotate_left
                                            · intro w'
                                              go_simp
                                              with_reducible rfl
                                            rotate_left
                                            · simp only [Act.put, List.setIfInBounds_toArray, List.set_cons_zero, List.set_cons_succ, i64_w, i32_w]
                                              rfl
                                            refine pure_ (i := 13) (N := some 112) (v := ?_) (a' := ?_) #[true, true, true, true, true, true, true, true, true, true, true, true, true, true, false, false, false, false, false, false, false, false, false, false, false, false, false, false, false, false, false, false, false, false, false, false, false, false, false, false, false, false, false, false, false] rfl rfl (any_of HT_.out (by kernel_rfl)) (fun _ _ _ h => h) (Or.inl ⟨by rfl, ?_⟩) ?_ ?_
                                            rotate_left
                                            · intro w'
                                              go_simp
                                              with_reducible rfl
                                            rotate_left
                                            · simp only [Act.put, List.setIfInBounds_toArray, List.set_cons_zero, List.set_cons_succ, i64_w, i32_w]
                                              rfl
                                            refine pure_ (i := 14) (N := some 113) (v := ?_) (a' := ?_) #[true, true, true, true, true, true, true, true, true, true, true, true, true, true, true, false, false, false, false, false, false, false, false, false, false, false, false, false, false, false, false, false, false, false, false, false, false, false, false, false, false, false, false, false, false] rfl rfl (any_of HT_.out (by kernel_rfl)) (fun _ _ _ h => h) (Or.inl ⟨by rfl, ?_⟩) ?_ ?_
                                            rotate_left
                                            · intro w'
                                              go_simp
                                              with_reducible rfl
                                            rotate_left
                                            · simp only [Act.put, List.setIfInBounds_toArray, List.set_cons_zero, List.set_cons_succ, i64_w, i32_w]
                                              rfl
                                            refine pure_ (i := 15) (N := some 114) (v := ?_) (a' := ?_) #[true, true, true, true, true, true, true, true, true, true, true, true, true, true, true, true, false, false, false, false, false, false, false, false, false, false, false, false, false, false, false, false, false, false, false, false, false, false, false, false, false, false, false, false, false] rfl rfl (any_of HT_.out (by kernel_rfl)) (fun _ _ _ h => h) (Or.inl ⟨by rfl, ?_⟩) ?_ ?_
                                            rotate_left
                                            · intro w'
                                              go_simp
                                              with_reducible rfl
                                            rotate_left
                                            · simp only [Act.put, List.setIfInBounds_toArray, List.set_cons_zero, List.set_cons_succ, i64_w, i32_w]
                                              rfl
                                            refine pure_ (i := 16) (N := some 115) (v := ?_) (a' := ?_) #[true, true, true, true, true, true, true, true, true, true, true, true, true, true, true, true, true, false, false, false, false, false, false, false, false, false, false, false, false, false, false, false, false, false, false, false, false, false, false, false, false, false, false, false, false] rfl rfl (any_of HT_.out (by kernel_rfl)) (fun _ _ _ h => h) (Or.inl ⟨by rfl, ?_⟩) ?_ ?_
                                            rotate_left
                                            · intro w'
                                              go_simp
                                              with_reducible rfl
                                            rotate_left
                                            · simp only [Act.put, List.setIfInBounds_toArray, List.set_cons_zero, List.set_cons_succ, i64_w, i32_w]
                                              rfl
                                            refine pure_ (i := 17) (N := some 116) (v := ?_) (a' := ?_) #[true, true, true, true, true, true, true, true, true, true, true, true, true, true, true, true, true, true, false, false, false, false, false, false, false, false, false, false, false, false, false, false, false, false, false, false, false, false, false, false, false, false, false, false, false] rfl rfl (any_of HT_.out (by kernel_rfl)) (fun _ _ _ h => h) (Or.inl ⟨by rfl, ?_⟩) ?_ ?_
                                            rotate_left
                                            · intro w'
                                              go_simp
                                              with_reducible rfl
                                            rotate_left
                                            · simp only [Act.put, List.setIfInBounds_toArray, List.set_cons_zero, List.set_cons_succ, i64_w, i32_w]
                                              rfl
                                            refine pure_ (i := 18) (N := some 117) (v := ?_) (a' := ?_) #[true, true, true, true, true, true, true, true, true, true, true, true, true, true, true, true, true, true, true, false, false, false, false, false, false, false, false, false, false, false, false, false, false, false, false, false, false, false, false, false, false, false, false, false, false] rfl rfl (any_of HT_.out (by kernel_rfl)) (fun _ _ _ h => h) (Or.inl ⟨by rfl, ?_⟩) ?_ ?_
                                            rotate_left
                                            · intro w'
                                              go_simp
                                              with_reducible rfl
                                            rotate_left
                                            · simp only [Act.put, List.setIfInBounds_toArray, List.set_cons_zero, List.set_cons_succ, i64_w, i32_w]
                                              rfl
                                            refine pure_ (i := 19) (N := some 118) (v := ?_) (a' := ?_) #[true, true, true, true, true, true, true, true, true, true, true, true, true, true, true, true, true, true, true, true, false, false, false, false, false, false, false, false, false, false, false, false, false, false, false, false, false, false, false, false, false, false, false, false, false] rfl rfl (any_of HT_.out (by kernel_rfl)) (fun _ _ _ h => h) (Or.inl ⟨by rfl, ?_⟩) ?_ ?_
                                            rotate_left
                                            · intro w'
                                              go_simp
                                              with_reducible rfl
                                            rotate_left
                                            · simp only [Act.put, List.setIfInBounds_toArray, List.set_cons_zero, List.set_cons_succ, i64_w, i32_w]
                                              rfl
                                            refine pure_ (i := 20) (N := some 119) (v := ?_) (a' := ?_) #[true, true, true, true, true, true, true, true, true, true, true, true, true, true, true, true, true, true, true, true, true, false, false, false, false, false, false, false, false, false, false, false, false, false, false, false, false, false, false, false, false, false, false, false, false] rfl rfl (any_of HT_.out (by kernel_rfl)) (fun _ _ _ h => h) (Or.inl ⟨by rfl, ?_⟩) ?_ ?_
                                            rotate_left
                                            · intro w'
                                              go_simp
                                              with_reducible rfl
                                            rotate_left
                                            · simp only [Act.put, List.setIfInBounds_toArray, List.set_cons_zero, List.set_cons_succ, i64_w, i32_w]
                                              rfl
                                            refine pure_ (i := 21) (N := some 120) (v := ?_) (a' := ?_) #[true, true, true, true, true, true, true, true, true, true, true, true, true, true, true, true, true, true, true, true, true, true, false, false, false, false, false, false, false, false, false, false, false, false, false, false, false, false, false, false, false, false, false, false, false] rfl rfl (any_of HT_.out (by kernel_rfl)) (fun _ _ _ h => h) (Or.inl ⟨by rfl, ?_⟩) ?_ ?_
                                            rotate_left
                                            · intro w'
                                              go_simp
                                              with_reducible rfl
                                            rotate_left
                                            · simp only [Act.put, List.setIfInBounds_toArray, List.set_cons_zero, List.set_cons_succ, i64_w, i32_w]
                                              rfl
                                            refine pure_ (i := 22) (N := some 121) (v := ?_) (a' := ?_) #[true, true, true, true, true, true, true, true, true, true, true, true, true, true, true, true, true, true, true, true, true, true, true, false, false, false, false, false, false, false, false, false, false, false, false, false, false, false, false, false, false, false, false, false, false] rfl rfl (any_of HT_.out (by kernel_rfl)) (fun _ _ _ h => h) (Or.inl ⟨by rfl, ?_⟩) ?_ ?_
                                            rotate_left
                                            · intro w'
                                              go_simp
                                              with_reducible rfl
                                            rotate_left
                                            · simp only [Act.put, List.setIfInBounds_toArray, List.set_cons_zero, List.set_cons_succ, i64_w, i32_w]
                                              rfl
                                            refine pure_ (i := 23) (N := some 122) (v := ?_) (a' := ?_) #[true, true, true, true, true, true, true, true, true, true, true, true, true, true, true, true, true, true, true, true, true, true, true, true, false, false, false, false, false, false, false, false, false, false, false, false, false, false, false, false, false, false, false, false, false] rfl rfl (any_of HT_.out (by kernel_rfl)) (fun _ _ _ h => h) (Or.inl ⟨by rfl, ?_⟩) ?_ ?_
                                            rotate_left
                                            · intro w'
                                              go_simp
                                              with_reducible rfl
                                            rotate_left
                                            · simp only [Act.put, List.setIfInBounds_toArray, List.set_cons_zero, List.set_cons_succ, i64_w, i32_w]
                                              rfl
                                            refine pure_ (i := 24) (N := some 123) (v := ?_) (a' := ?_) #[true, true, true, true, true, true, true, true, true, true, true, true, true, true, true, true, true, true, true, true, true, true, true, true, true, false, false, false, false, false, false, false, false, false, false, false, false, false, false, false, false, false, false, false, false] rfl rfl (any_of HT_.out (by kernel_rfl)) (fun _ _ _ h => h) (Or.inl ⟨by rfl, ?_⟩) ?_ ?_
                                            rotate_left
                                            · intro w'
                                              go_simp
                                              with_reducible rfl
                                            rotate_left
                                            · simp only [Act.put, List.setIfInBounds_toArray, List.set_cons_zero, List.set_cons_succ, i64_w, i32_w]
                                              rfl
                                            refine pure_ (i := 25) (N := some 124) (v := ?_) (a' := ?_) #[true, true, true, true, true, true, true, true, true, true, true, true, true, true, true, true, true, true, true, true, true, true, true, true, true, true, false, false, false, false, false, false, false, false, false, false, false, false, false, false, false, false, false, false, false] rfl rfl (any_of HT_.out (by kernel_rfl)) (fun _ _ _ h => h) (Or.inl ⟨by rfl, ?_⟩) ?_ ?_
                                            rotate_left
                                            · intro w'
                                              go_simp
                                              with_reducible rfl
                                            rotate_left
                                            · simp only [Act.put, List.setIfInBounds_toArray, List.set_cons_zero, List.set_cons_succ, i64_w, i32_w]
                                              rfl
                                            refine pure_ (i := 26) (N := some 125) (v := ?_) (a' := ?_) #[true, true, true, true, true, true, true, true, true, true, true, true, true, true, true, true, true, true, true, true, true, true, true, true, true, true, true, false, false, false, false, false, false, false, false, false, false, false, false, false, false, false, false, false, false] rfl rfl (any_of HT_.out (by kernel_rfl)) (fun _ _ _ h => h) (Or.inl ⟨by rfl, ?_⟩) ?_ ?_
                                            rotate_left
                                            · intro w'
                                              go_simp
                                              with_reducible rfl
                                            rotate_left
                                            · simp only [Act.put, List.setIfInBounds_toArray, List.set_cons_zero, List.set_cons_succ, i64_w, i32_w]
                                              rfl
                                            refine pure_ (i := 27) (N := some 126) (v := ?_) (a' := ?_) #[true, true, true, true, true, true, true, true, true, true, true, true, true, true, true, true, true, true, true, true, true, true, true, true, true, true, true, true, false, false, false, false, false, false, false, false, false, false, false, false, false, false, false, false, false] rfl rfl (any_of HT_.out (by kernel_rfl)) (fun _ _ _ h => h) (Or.inl ⟨by rfl, ?_⟩) ?_ ?_
                                            rotate_left
                                            · intro w'
                                              go_simp
                                              with_reducible rfl
                                            rotate_left
                                            · simp only [Act.put, List.setIfInBounds_toArray, List.set_cons_zero, List.set_cons_succ, i64_w, i32_w]
                                              rfl
                                            refine pure_ (i := 28) (N := some 127) (v := ?_) (a' := ?_) #[true, true, true, true, true, true, true, true, true, true, true, true, true, true, true, true, true, true, true, true, true, true, true, true, true, true, true, true, true, false, false, false, false, false, false, false, false, false, false, false, false, false, false, false, false] rfl rfl (any_of HT_.out (by kernel_rfl)) (fun _ _ _ h => h) (Or.inl ⟨by rfl, ?_⟩) ?_ ?_
                                            rotate_left
                                            · intro w'
                                              go_simp
                                              with_reducible rfl
                                            rotate_left
                                            · simp only [Act.put, List.setIfInBounds_toArray, List.set_cons_zero, List.set_cons_succ, i64_w, i32_w]
                                              rfl
                                            refine pure_ (i := 29) (N := some 128) (v := ?_) (a' := ?_) #[true, true, true, true, true, true, true, true, true, true, true, true, true, true, true, true, true, true, true, true, true, true, true, true, true, true, true, true, true, true, false, false, false, false, false, false, false, false, false, false, false, false, false, false, false] rfl rfl (any_of HT_.out (by kernel_rfl)) (fun _ _ _ h => h) (Or.inl ⟨by rfl, ?_⟩) ?_ ?_
                                            rotate_left
                                            · intro w'
                                              go_simp
                                              with_reducible rfl
                                            rotate_left
                                            · simp only [Act.put, List.setIfInBounds_toArray, List.set_cons_zero, List.set_cons_succ, i64_w, i32_w]
                                              rfl
                                            refine take_ (i := 30) (N := some 129) (v := ?_) (a' := ?_) #[true, true, true, true, true, true, true, true, true, true, true, true, true, true, true, true, true, true, true, true, true, true, true, true, true, true, true, true, true, true, true, false, false, false, false, false, false, false, false, false, false, false, false, false, false] rfl rfl (take_ofW HT_.out HW_.out (by kernel_rfl)) (fun _ _ _ h => h) (Or.inl ⟨by rfl, ?_⟩) hHeld ?_ ?_
                                            rotate_left
                                            · rintro w' ⟨s0, s1, s2, s3, s4, s5, s6, s7, s8, s9⟩
                                              go_simp
                                              with_reducible rfl
                                            rotate_left
                                            · simp only [Act.put, List.setIfInBounds_toArray, List.set_cons_zero, List.set_cons_succ, i64_w, i32_w]
                                              rfl
                                            refine pure_ (i := 31) (N := some 130) (v := ?_) (a' := ?_) #[true, true, true, true, true, true, true, true, true, true, true, true, true, true, true, true, true, true, true, true, true, true, true, true, true, true, true, true, true, true, true, true, false, false, false, false, false, false, false, false, false, false, false, false, false] rfl rfl (any_of HT_.out (by kernel_rfl)) (fun _ _ _ h => h) (Or.inl ⟨by rfl, ?_⟩) ?_ ?_
                                            rotate_left
                                            · intro w'
                                              go_simp
                                              with_reducible rfl
                                            rotate_left
                                            · simp only [Act.put, List.setIfInBounds_toArray, List.set_cons_zero, List.set_cons_succ, i64_w, i32_w]
                                              rfl
                                            refine pure_ (i := 32) (N := some 131) (v := ?_) (a' := ?_) #[true, true, true, true, true, true, true, true, true, true, true, true, true, true, true, true, true, true, true, true, true, true, true, true, true, true, true, true, true, true, true, true, true, false, false, false, false, false, false, false, false, false, false, false, false] rfl rfl (any_of HT_.out (by kernel_rfl)) (fun _ _ _ h => h) (Or.inl ⟨by rfl, ?_⟩) ?_ ?_
                                            rotate_left
                                            · intro w'
                                              go_simp
                                              with_reducible rfl
                                            rotate_left
                                            · simp only [Act.put, List.setIfInBounds_toArray, List.set_cons_zero, List.set_cons_succ, i64_w, i32_w]
                                              rfl
                                            refine pure_ (i := 33) (N := some 132) (v := ?_) (a' := ?_) #[true, true, true, true, true, true, true, true, true, true, true, true, true, true, true, true, true, true, true, true, true, true, true, true, true, true, true, true, true, true, true, true, true, true, false, false, false, false, false, false, false, false, false, false, false] rfl rfl (any_of HT_.out (by kernel_rfl)) (fun _ _ _ h => h) (Or.inl ⟨by rfl, ?_⟩) ?_ ?_
                                            rotate_left
                                            · intro w'
                                              go_simp
                                              with_reducible rfl
                                            rotate_left
                                            · simp only [Act.put, List.setIfInBounds_toArray, List.set_cons_zero, List.set_cons_succ, i64_w, i32_w]
                                              rfl
                                            refine pure_ (i := 34) (N := some 133) (v := ?_) (a' := ?_) #[true, true, true, true, true, true, true, true, true, true, true, true, true, true, true, true, true, true, true, true, true, true, true, true, true, true, true, true, true, true, true, true, true, true, true, false, false, false, false, false, false, false, false, false, false] rfl rfl (any_of HT_.out (by kernel_rfl)) (fun _ _ _ h => h) (Or.inl ⟨by rfl, ?_⟩) ?_ ?_
                                            rotate_left
                                            · intro w'
                                              go_simp
                                              with_reducible rfl
                                            rotate_left
                                            · simp only [Act.put, List.setIfInBounds_toArray, List.set_cons_zero, List.set_cons_succ, i64_w, i32_w]
                                              rfl
                                            refine pure_ (i := 35) (N := some 134) (v := ?_) (a' := ?_) #[true, true, true, true, true, true, true, true, true, true, true, true, true, true, true, true, true, true, true, true, true, true, true, true, true, true, true, true, true, true, true, true, true, true, true, true, false, false, false, false, false, false, false, false, false] rfl rfl (any_of HT_.out (by kernel_rfl)) (fun _ _ _ h => h) (Or.inl ⟨by rfl, ?_⟩) ?_ ?_
                                            rotate_left
                                            · intro w'
                                              go_simp
                                              with_reducible rfl
                                            rotate_left
                                            · simp only [Act.put, List.setIfInBounds_toArray, List.set_cons_zero, List.set_cons_succ, i64_w, i32_w]
                                              rfl
                                            refine pure_ (i := 36) (N := some 135) (v := ?_) (a' := ?_) #[true, true, true, true, true, true, true, true, true, true, true, true, true, true, true, true, true, true, true, true, true, true, true, true, true, true, true, true, true, true, true, true, true, true, true, true, true, false, false, false, false, false, false, false, false] rfl rfl (any_of HT_.out (by kernel_rfl)) (fun _ _ _ h => h) (Or.inl ⟨by rfl, ?_⟩) ?_ ?_
                                            rotate_left
                                            · intro w'
                                              go_simp
                                              with_reducible rfl
                                            rotate_left
                                            · simp only [Act.put, List.setIfInBounds_toArray, List.set_cons_zero, List.set_cons_succ, i64_w, i32_w]
                                              rfl
                                            refine pure_ (i := 38) (N := some 137) (v := ?_) (a' := ?_) #[true, true, true, true, true, true, true, true, true, true, true, true, true, true, true, true, true, true, true, true, true, true, true, true, true, true, true, true, true, true, true, true, true, true, true, true, true, false, true, false, false, false, false, false, false] rfl rfl (any_of HT_.out (by kernel_rfl)) (fun _ _ _ h => h) (Or.inl ⟨by rfl, ?_⟩) ?_ ?_
                                            rotate_left
                                            · intro w'
                                              go_simp
                                              with_reducible rfl
                                            rotate_left
                                            · simp only [Act.put, List.setIfInBounds_toArray, List.set_cons_zero, List.set_cons_succ, i64_w, i32_w]
                                              rfl
                                            refine pure_ (i := 39) (N := some 138) (v := ?_) (a' := ?_) #[true, true, true, true, true, true, true, true, true, true, true, true, true, true, true, true, true, true, true, true, true, true, true, true, true, true, true, true, true, true, true, true, true, true, true, true, true, false, true, true, false, false, false, false, false] rfl rfl (any_of HT_.out (by kernel_rfl)) (fun _ _ _ h => h) (Or.inl ⟨by rfl, ?_⟩) ?_ ?_
                                            rotate_left
                                            · intro w'
                                              go_simp
                                              with_reducible rfl
                                            rotate_left
                                            · simp only [Act.put, List.setIfInBounds_toArray, List.set_cons_zero, List.set_cons_succ, i64_w, i32_w]
                                              rfl
                                            refine pure_ (i := 40) (N := some 139) (v := ?_) (a' := ?_) #[true, true, true, true, true, true, true, true, true, true, true, true, true, true, true, true, true, true, true, true, true, true, true, true, true, true, true, true, true, true, true, true, true, true, true, true, true, false, true, true, true, false, false, false, false] rfl rfl (any_of HT_.out (by kernel_rfl)) (fun _ _ _ h => h) (Or.inl ⟨by rfl, ?_⟩) ?_ ?_
                                            rotate_left
                                            · intro w'
                                              go_simp
                                              with_reducible rfl
                                            rotate_left
                                            · simp only [Act.put, List.setIfInBounds_toArray, List.set_cons_zero, List.set_cons_succ, i64_w, i32_w]
                                              rfl
                                            refine pure_ (i := 41) (N := some 140) (v := ?_) (a' := ?_) #[true, true, true, true, true, true, true, true, true, true, true, true, true, true, true, true, true, true, true, true, true, true, true, true, true, true, true, true, true, true, true, true, true, true, true, true, true, false, true, true, true, true, false, false, false] rfl rfl (any_of HT_.out (by kernel_rfl)) (fun _ _ _ h => h) (Or.inl ⟨by rfl, ?_⟩) ?_ ?_
                                            rotate_left
                                            · intro w'
                                              go_simp
                                              with_reducible rfl
                                            rotate_left
                                            · simp only [Act.put, List.setIfInBounds_toArray, List.set_cons_zero, List.set_cons_succ, i64_w, i32_w]
                                              rfl
                                            refine take_ (i := 42) (N := some 141) (v := ?_) (a' := ?_) #[true, true, true, true, true, true, true, true, true, true, true, true, true, true, true, true, true, true, true, true, true, true, true, true, true, true, true, true, true, true, true, true, true, true, true, true, true, false, true, true, true, true, true, false, false] rfl rfl (take_ofW HT_.out HW_.out (by kernel_rfl)) (fun _ _ _ h => h) (Or.inl ⟨by rfl, ?_⟩) hHeld ?_ ?_
                                            rotate_left
                                            · rintro w' ⟨s0, s1, s2, s3, s4, s5, s6, s7, s8, s9⟩
                                              go_simp
                                              with_reducible rfl
                                            rotate_left
                                            · simp only [Act.put, List.setIfInBounds_toArray, List.set_cons_zero, List.set_cons_succ, i64_w, i32_w]
                                              rfl
                                            refine one_ (i := 37) (N := some 136) #[true, true, true, true, true, true, true, true, true, true, true, true, true, true, true, true, true, true, true, true, true, true, true, true, true, true, true, true, true, true, true, true, true, true, true, true, true, true, true, true, true, true, true, false, false] rfl rfl (one_of HT_.out (by kernel_rfl)) (by decide) (fun K hK => ?_)
                                            refine goes_ Try.func12 (by kernel_rfl) rfl #[.string (x0_1.extract 0 (t197 : Int).toNat)] (by rfl) rfl rfl (by (try simp only [List.map_toArray, List.map_cons, List.map_nil]); first | done | rfl | (simp only [List.length_drop, List.length_take]; rfl)) ?_
                                            with_reducible refine (token_End.calls kj13 (x0_1.extract 0 (t197 : Int).toNat) t200 t201 _ A39.out).mono ?_
                                            rintro e w41 ⟨rfl, hb⟩
                                            have HS0_ := (hb.cell (World.block_lt_of_cell? _ _ (hHeld.1))).trans (hHeld.1)
                                            have HS1_ := (hb.cell (World.block_lt_of_cell? _ _ (hHeld.2.1))).trans (hHeld.2.1)
                                            have HS2_ := (hb.cell (World.block_lt_of_cell? _ _ (hHeld.2.2.1))).trans (hHeld.2.2.1)
                                            have HS3_ := (hb.cell (World.block_lt_of_cell? _ _ (hHeld.2.2.2.1))).trans (hHeld.2.2.2.1)
                                            have HS4_ := (hb.cell (World.block_lt_of_cell? _ _ (hHeld.2.2.2.2.1))).trans (hHeld.2.2.2.2.1)
                                            have HS5_ := (hb.cell (World.block_lt_of_cell? _ _ (hHeld.2.2.2.2.2.1))).trans (hHeld.2.2.2.2.2.1)
                                            have HS6_ := (hb.cell (World.block_lt_of_cell? _ _ (hHeld.2.2.2.2.2.2.1))).trans (hHeld.2.2.2.2.2.2.1)
                                            have HS7_ := (hb.cell (World.block_lt_of_cell? _ _ (hHeld.2.2.2.2.2.2.2.1))).trans (hHeld.2.2.2.2.2.2.2.1)
                                            have HS8_ := (hb.cell (World.block_lt_of_cell? _ _ (hHeld.2.2.2.2.2.2.2.2.1))).trans (hHeld.2.2.2.2.2.2.2.2.1)
                                            have HS9_ := (hb.cell (World.block_lt_of_cell? _ _ (hHeld.2.2.2.2.2.2.2.2.2))).trans (hHeld.2.2.2.2.2.2.2.2.2)
                                            refine ⟨_, rfl, ?_⟩
                                            have n0_ := Aside0.mk (Kd.R_below (by (with_reducible repeat (first | apply Kd.R_alloc | apply Kd.R_drewN | apply Kd.R_drew)); exact HO_3.out) hb)
                                            have n1_ := Aside0.mk (blk_below (g := gb184) (o := .cells #[.int .i64 t181, .int .i64 t182] 24 (0, 0)) (by (with_reducible repeat (first | refine blk_drewN ?_ _ | refine blk_drew ?_ | refine blk_alloc ?_ _)); exact BK184.out) hb)
                                            have n2_ := Aside0.mk (below_step (by repeat (first | (with_reducible first | exact HB.out | apply below_alloc | apply pw_below_drewN | apply below_drew1 | refine below_set ?_ GE184.out) | exact HB.out)) hb)
                                            clear HO_3
                                            clear BK184
                                            clear HB
                                            have HO_3 := n0_
                                            have BK184 := n1_
                                            have HB := n2_
                                            clear n0_ n1_ n2_
                                            (try clear hb)
                                            (try clear hb2)
                                            (try clear hk)
                                            (try clear hi)
                                            refine hK.out _ _ ⟨HS0_, HS1_, HS2_, HS3_, HS4_, HS5_, HS6_, HS7_, HS8_, HS9_⟩ (fun hHeld => ?_)
                                            clear hK K
                                            refine norm_ (a' := ?_) ?_ ?_
                                            rotate_left
                                            · show Act.put _ (some 136) _ = _
                                              simp only [Act.put, List.setIfInBounds_toArray, List.set_cons_zero, List.set_cons_succ, i64_w, i32_w]
                                              rfl
                                            refine pure_ (i := 43) (N := some 142) (v := ?_) (a' := ?_) #[true, true, true, true, true, true, true, true, true, true, true, true, true, true, true, true, true, true, true, true, true, true, true, true, true, true, true, true, true, true, true, true, true, true, true, true, true, true, true, true, true, true, true, true, false] rfl rfl (any_of HT_.out (by kernel_rfl)) (fun _ _ _ h => h) (Or.inl ⟨by rfl, ?_⟩) ?_ ?_
                                            rotate_left
                                            · intro w'
                                              go_simp
                                              with_reducible rfl
                                            rotate_left
                                            · simp only [Act.put, List.setIfInBounds_toArray, List.set_cons_zero, List.set_cons_succ, i64_w, i32_w]
                                              rfl
                                            refine pure_ (i := 44) (N := some 143) (v := ?_) (a' := ?_) #[true, true, true, true, true, true, true, true, true, true, true, true, true, true, true, true, true, true, true, true, true, true, true, true, true, true, true, true, true, true, true, true, true, true, true, true, true, true, true, true, true, true, true, true, true] rfl rfl (any_of HT_.out (by kernel_rfl)) (fun _ _ _ h => h) (Or.inl ⟨by rfl, ?_⟩) ?_ ?_
                                            rotate_left
                                            · intro w'
                                              go_simp
                                              with_reducible rfl
                                            rotate_left
                                            · simp only [Act.put, List.setIfInBounds_toArray, List.set_cons_zero, List.set_cons_succ, i64_w, i32_w]
                                              rfl
                                            refine done_ (done_of HT_.out (by kernel_rfl)) ?_
                                            try go_wp2
                                            go_meet
                                            case rel => exact ⟨_, ((!(t200 == ((rd_T30 t178 x11_2).f3.f0)) || (!(t201 == ((rd_T30 t178 x11_2).f3.f1))))), (by first | rfl | (simp; done) | (simp [*]; done) | (simp [isEmpty_ne]; done)), H', ⟨by have := HJ1.out; have := HK2.out; have := HJ13.out; first | omega | exact Nat.le_refl _⟩, ⟨by (with_reducible repeat (first | apply Kd.R_alloc | apply Kd.R_drewN | apply Kd.R_drew)); exact HO_3.out⟩, ⟨by (with_reducible repeat (first | refine blk_drewN ?_ _ | refine blk_drew ?_ | refine blk_alloc ?_ _)); exact BK184.out⟩, ⟨by repeat (first | (with_reducible first | exact HB.out | apply below_alloc | apply pw_below_drewN | apply below_drew1 | refine below_set ?_ GE184.out) | exact HB.out)⟩⟩
                                          · rw [if_neg c38] at H
                                            exact absurd H (by simp)
                                        · rw [if_neg c36] at H
                                          exact absurd H (by simp)
                                      · rw [if_neg c35] at H
                                        exact absurd H (by simp)
                                    · rw [if_neg c34] at H
                                      exact absurd H (by simp)
                                  · rw [if_neg c33] at H
                                    exact absurd H (by simp)
                        case rest =>
                          clear HC22
                          try clear c1
                          try clear p1
                          try clear q1
                          try clear hx1
                          try clear p2
                          try clear c3
                          try clear p6
                          try clear c12
                          try clear p19
                          try clear q19
                          try clear hx19
                          try clear c33
                          try clear c34
                          try clear c35
                          try clear c36
                          try clear c36b0
                          try clear c36b1
                          try clear c38
                          try clear hx199_0
                          try clear hx199_1
                          try clear hx199_2
                          try clear hx199_3
                          try clear hx199_4
                          try clear p199
                          try clear q199
                          obtain ⟨kq, x143_21, rfl, HA, HJ21, HO_3, BK184, HB⟩ := hcut
                          cases kq with
                          | zero => exact absurd HA.out (by simp [wisplaw09_TokenPlaces.j4])
                          | succ kj21 =>
                            have H := HA.out
                            clear HA
                            simp only [wisplaw09_TokenPlaces.j4] at H
                            by_cases c43 : x143_21 = true
                            · subst c43
                              have H1 : (none) = some r := by rw [if_pos rfl] at H; exact H
                              exact absurd H1 (by simp)
                            · replace c43 := Bool.eq_false_iff.mpr c43
                              subst c43
                              have H1 : (if 0 ≤ (wrap64 (t197 + (((rd_T30 t178 x11_2).f1).size : Int))) then (if (wrap64 (t197 + (((rd_T30 t178 x11_2).f1).size : Int))) ≤ (x0_1.size : Int) then ((token_Scan.f kj21 (x0_1.extract 0 ((wrap64 (t197 + (((rd_T30 t178 x11_2).f1).size : Int))) : Int).toNat)).bind fun bt203 => (if bt203.2.2.2 = 0 then (if (bt203.1.length : Int) = (wrap64 (x11_2 + 1)) then (if 0 ≤ x11_2 then (if x11_2 < (bt203.1.length : Int) then (if x11_2 < (t178.length : Int) then (if (!(((rd_T30 bt203.1 x11_2).f0) == ((rd_T30 t178 x11_2).f0)) || (!((((rd_T30 bt203.1 x11_2).f1).toList) == (((rd_T30 t178 x11_2).f1).toList)) || (!(((rd_T30 bt203.1 x11_2).f2) == ((rd_T30 t178 x11_2).f2)) || ((!(((rd_T30 bt203.1 x11_2).f3.f0) == ((rd_T30 t178 x11_2).f3.f0)) || (!(((rd_T30 bt203.1 x11_2).f3.f1) == ((rd_T30 t178 x11_2).f3.f1)))))))) = true then (none) else (wisplaw09_TokenPlaces.l0 kj21 x0_1 t178 (wrap64 (t197 + (((rd_T30 t178 x11_2).f1).size : Int))) (wrap64 (x11_2 + 1)) t181 t182)) else (none)) else (none)) else (none)) else (none)) else (none))) else (none)) else (none)) = some r := by rw [if_neg (show ¬ (false = true) by decide)] at H; exact H
                              clear H
                              have H := H1
                              clear H1
                              obtain ⟨ji44, hji44⟩ : ∃ j_ : Int, (wrap64 (t197 + (((rd_T30 t178 x11_2).f1).size : Int))) = j_ := ⟨_, rfl⟩
                              replace H : (if 0 ≤ (ji44) then (if (ji44) ≤ (x0_1.size : Int) then ((token_Scan.f kj21 (x0_1.extract 0 ((ji44) : Int).toNat)).bind fun bt203 => (if bt203.2.2.2 = 0 then (if (bt203.1.length : Int) = (wrap64 (x11_2 + 1)) then (if 0 ≤ x11_2 then (if x11_2 < (bt203.1.length : Int) then (if x11_2 < (t178.length : Int) then (if (!(((rd_T30 bt203.1 x11_2).f0) == ((rd_T30 t178 x11_2).f0)) || (!((((rd_T30 bt203.1 x11_2).f1).toList) == (((rd_T30 t178 x11_2).f1).toList)) || (!(((rd_T30 bt203.1 x11_2).f2) == ((rd_T30 t178 x11_2).f2)) || ((!(((rd_T30 bt203.1 x11_2).f3.f0) == ((rd_T30 t178 x11_2).f3.f0)) || (!(((rd_T30 bt203.1 x11_2).f3.f1) == ((rd_T30 t178 x11_2).f3.f1)))))))) = true then (none) else (wisplaw09_TokenPlaces.l0 kj21 x0_1 t178 ji44 (wrap64 (x11_2 + 1)) t181 t182)) else (none)) else (none)) else (none)) else (none)) else (none))) else (none)) else (none)) = some r := by first | (rw [hji44] at H; exact H) | (simp only [hji44] at H ⊢; exact H)
                              have hji44w : (IntKind.i64.wrap (t197 + (((rd_T30 t178 x11_2).f1).size : Int))) = ji44 := (i64_w _).trans hji44
                              by_cases c45 : 0 ≤ (ji44)
                              · rw [if_pos c45] at H
                                have c45b0 := eq_true c45
                                have c45b1 : decide (0 ≤ (ji44)) = true := decide_eq_true c45
                                clear c45
                                by_cases c46 : (ji44) ≤ (x0_1.size : Int)
                                · rw [if_pos c46] at H
                                  have c46b0 := eq_true c46
                                  have c46b1 : decide ((ji44) ≤ (x0_1.size : Int)) = true := decide_eq_true c46
                                  clear c46
                                  replace H := Option.bind_eq_some_iff.mp H
                                  obtain ⟨⟨t203, t206, t207, t208⟩, A470, H⟩ := H
                                  replace H : (if t208 = 0 then (if (t203.length : Int) = (wrap64 (x11_2 + 1)) then (if 0 ≤ x11_2 then (if x11_2 < (t203.length : Int) then (if x11_2 < (t178.length : Int) then (if (!(((rd_T30 t203 x11_2).f0) == ((rd_T30 t178 x11_2).f0)) || (!((((rd_T30 t203 x11_2).f1).toList) == (((rd_T30 t178 x11_2).f1).toList)) || (!(((rd_T30 t203 x11_2).f2) == ((rd_T30 t178 x11_2).f2)) || ((!(((rd_T30 t203 x11_2).f3.f0) == ((rd_T30 t178 x11_2).f3.f0)) || (!(((rd_T30 t203 x11_2).f3.f1) == ((rd_T30 t178 x11_2).f3.f1)))))))) = true then (none) else (wisplaw09_TokenPlaces.l0 kj21 x0_1 t178 ji44 (wrap64 (x11_2 + 1)) t181 t182)) else (none)) else (none)) else (none)) else (none)) else (none)) = some r := H
                                  have A47 := Aside0.mk A470
                                  clear A470
                                  by_cases c48 : t208 = 0
                                  · rw [if_pos c48] at H
                                    have c48b0 : (t208 == 0) = true := beq_iff_eq.mpr c48
                                    have c48b1 : (t208 != 0) = false := bne_eq_false_iff_eq.mpr c48
                                    clear c48
                                    by_cases c49 : (t203.length : Int) = (wrap64 (x11_2 + 1))
                                    · rw [if_pos c49] at H
                                      have c49b0 : ((t203.length : Int) == (wrap64 (x11_2 + 1))) = true := beq_iff_eq.mpr c49
                                      have c49b1 : ((t203.length : Int) != (wrap64 (x11_2 + 1))) = false := bne_eq_false_iff_eq.mpr c49
                                      clear c49
                                      by_cases c50 : 0 ≤ x11_2
                                      · rw [if_pos c50] at H
                                        have c50b0 : decide (0 ≤ x11_2) = true := decide_eq_true c50
                                        clear c50
                                        by_cases c51 : x11_2 < (t203.length : Int)
                                        · rw [if_pos c51] at H
                                          have c51b0 : decide (x11_2 < (t203.length : Int)) = true := decide_eq_true c51
                                          clear c51
                                          by_cases c52 : x11_2 < (t178.length : Int)
                                          · rw [if_pos c52] at H
                                            have c52b0 : decide (x11_2 < (t178.length : Int)) = true := decide_eq_true c52
                                            clear c52
                                            by_cases c53 : (!(((rd_T30 t203 x11_2).f0) == ((rd_T30 t178 x11_2).f0)) || (!((((rd_T30 t203 x11_2).f1).toList) == (((rd_T30 t178 x11_2).f1).toList)) || (!(((rd_T30 t203 x11_2).f2) == ((rd_T30 t178 x11_2).f2)) || ((!(((rd_T30 t203 x11_2).f3.f0) == ((rd_T30 t178 x11_2).f3.f0)) || (!(((rd_T30 t203 x11_2).f3.f1) == ((rd_T30 t178 x11_2).f3.f1)))))))) = true
                                            · rw [if_pos c53] at H
                                              exact absurd H (by simp)
                                            · rw [if_neg c53] at H
                                              have c53b0 : (!(((rd_T30 t203 x11_2).f0) == ((rd_T30 t178 x11_2).f0)) || (!((((rd_T30 t203 x11_2).f1).toList) == (((rd_T30 t178 x11_2).f1).toList)) || (!(((rd_T30 t203 x11_2).f2) == ((rd_T30 t178 x11_2).f2)) || ((!(((rd_T30 t203 x11_2).f3.f0) == ((rd_T30 t178 x11_2).f3.f0)) || (!(((rd_T30 t203 x11_2).f3.f1) == ((rd_T30 t178 x11_2).f3.f1)))))))) = false := by simpa using c53
                                              clear c53
                                              have H' := Aside0.mk H
                                              clear H
                                              try go_wp2_with (first | ((with_reducible refine gate_callee (f := 8) rfl ?_); refine goesL_ (some 150) rfl rfl Try.func8 (by kernel_rfl) rfl #[.string (x0_1.extract 0 ((ji44) : Int).toNat)] rfl (by (try simp only [List.map_toArray, List.map_cons, List.map_nil]); first | done | (simp only [hji44]; rfl) | rfl | (simp only [List.length_drop, List.length_take]; rfl)) ?_; (with_reducible refine (token_Scan.calls kj21 (x0_1.extract 0 ((ji44) : Int).toNat) t203 t206 t207 t208 _ A47.out).mono ?_); rintro e w61 ⟨v204, rfl, ho0, hb⟩; refine ⟨_, rfl, ?_⟩; have n0_ := Aside0.mk (Kd.R_elder' (by (with_reducible repeat (first | apply Kd.R_alloc | apply Kd.R_drewN | apply Kd.R_drew)); exact HO_3.out) (Kd.R_base ho0) hb); have n1_ := Aside0.mk (Kd.R_lower (Kd.R_new' ho0 (Kd.R_lt (by (with_reducible repeat (first | apply Kd.R_alloc | apply Kd.R_drewN | apply Kd.R_drew)); exact HO_3.out))) (below_size (by repeat (first | (with_reducible first | exact HB.out | apply below_alloc | apply pw_below_drewN | apply below_drew1 | refine below_set ?_ GE184.out) | exact HB.out)))); have n2_ := Aside0.mk (blk_below (g := gb184) (o := .cells #[.int .i64 t181, .int .i64 t182] 24 (0, 0)) (by (with_reducible repeat (first | refine blk_drewN ?_ _ | refine blk_drew ?_ | refine blk_alloc ?_ _)); exact BK184.out) hb); have n3_ := Aside0.mk (below_step (by repeat (first | (with_reducible first | exact HB.out | apply below_alloc | apply pw_below_drewN | apply below_drew1 | refine below_set ?_ GE184.out) | exact HB.out)) hb); clear HO_3; clear BK184; clear HB; have HO_3 := n0_; have HO205 := n1_; have BK184 := n2_; have HB := n3_; clear n0_ n1_ n2_ n3_; (try clear hb); (try clear hb2); (try clear hk); (try clear hi); (try clear ho0)) | ((with_reducible refine gate_dst (N := 15) rfl ?_); (try (refine gate_guard (by rfl) ?_; dsimp only)); refine box_event ?hg (N := 15) ?hd (cs := #[.int .i64 0, .int .i64 0]) (t := 24) ?hr ?_; (case hd => rfl); (case hg => rfl); (case hr => first | (go_simp; done) | (go_simp; rfl)); intro gb209 hg w62 hbox hb; have n0_ := Aside0.mk (Kd.R_below (by (with_reducible repeat (first | apply Kd.R_alloc | apply Kd.R_drewN | apply Kd.R_drew)); exact HO_3.out) hb); have n1_ := Aside0.mk (Kd.R_below (by (with_reducible repeat (first | apply Kd.R_alloc | apply Kd.R_drewN | apply Kd.R_drew)); exact HO205.out) hb); have n2_ := Aside0.mk (blk_below (g := gb184) (o := .cells #[.int .i64 t181, .int .i64 t182] 24 (0, 0)) (by (with_reducible repeat (first | refine blk_drewN ?_ _ | refine blk_drew ?_ | refine blk_alloc ?_ _)); exact BK184.out) hb); have n3_ := Aside0.mk (below_step (by repeat (first | (with_reducible first | exact HB.out | apply below_alloc | apply pw_below_drewN | apply below_drew1 | refine below_set ?_ GE184.out) | exact HB.out)) hb); have n4_ := Aside0.mk (hbox); have n5_ := Aside0.mk ((by rw [hg]; exact (below_size (by repeat (first | (with_reducible first | exact HB.out | apply below_alloc | apply pw_below_drewN | apply below_drew1 | refine below_set ?_ GE184.out) | exact HB.out))) : w.heap.size ≤ gb209)); have n6_ := Aside0.mk ((by rw [hg]; exact (below_size (by repeat (first | (with_reducible first | exact HB.out | apply below_alloc | apply pw_below_drewN | apply below_drew1 | refine below_set ?_ GE184.out) | exact HB.out))) : w.heap.size ≤ gb209)); have n7_ := Aside0.mk ((by rw [hg]; exact Nat.ne_of_lt (blk_lt (g := gb184) (o := .cells #[.int .i64 t181, .int .i64 t182] 24 (0, 0)) (by (with_reducible repeat (first | refine blk_drewN ?_ _ | refine blk_drew ?_ | refine blk_alloc ?_ _)); exact BK184.out)) : gb184 ≠ gb209)); have n8_ := Aside0.mk ((by rw [hg]; exact Nat.ne_of_gt (blk_lt (g := gb184) (o := .cells #[.int .i64 t181, .int .i64 t182] 24 (0, 0)) (by (with_reducible repeat (first | refine blk_drewN ?_ _ | refine blk_drew ?_ | refine blk_alloc ?_ _)); exact BK184.out)) : gb209 ≠ gb184)); clear HO_3; clear HO205; clear BK184; clear HB; have HO_3 := n0_; have HO205 := n1_; have BK184 := n2_; have HB := n3_; have BK209 := n4_; have GW209 := n5_; have GE209 := n6_; have NB184_209 := n7_; have NB209_184 := n8_; clear n0_ n1_ n2_ n3_ n4_ n5_ n6_ n7_ n8_; clear hb hbox hg; have hnb63 := NB209_184.out; have hnc63 := NB184_209.out; have hcz64_0 : w62.cell? ⟨gb209, 0, none⟩ = some (.int .i64 0) := (blk_cell BK209.out 0).trans rfl; have hcz64_1 : w62.cell? ⟨gb209, 1, none⟩ = some (.int .i64 0) := (blk_cell BK209.out 1).trans rfl; have hfz64_0 := blk_frozen BK209.out 0; have hfz64_1 := blk_frozen BK209.out 1))
                                              have n0_ : Aside0 (Kd.R k30 30 ((w62.setCell ⟨gb209, 0, none⟩ (.int .i64 t206)).setCell ⟨gb209, 1, none⟩ (.int .i64 t207)) w.heap.size (fun k_ => some k_ ≠ (v204 : Value).ownBlock) (.slice (some ad196) t178.length co23) t178) := ⟨by (with_reducible repeat (first | apply Kd.R_alloc | apply Kd.R_drewN | apply Kd.R_drew)); exact Kd.R_mono (Kd.R_far (p := ⟨gb209, 1, none⟩) (Kd.R_far (p := ⟨gb209, 0, none⟩) (Kd.R_types HO_3.out BK209.out (by decide)) (fun _ hk => hk.2) (.int .i64 t206)) (fun _ hk => hk.2) (.int .i64 t207)) (fun _ hk => hk.1.2)⟩
                                              have n1_ : Aside0 (Kd.R k30 30 ((w62.setCell ⟨gb209, 0, none⟩ (.int .i64 t206)).setCell ⟨gb209, 1, none⟩ (.int .i64 t207)) w.heap.size (fun k_ => some k_ ≠ (.slice (some ad196) t178.length co23 : Value).ownBlock) v204 t203) := ⟨by (with_reducible repeat (first | apply Kd.R_alloc | apply Kd.R_drewN | apply Kd.R_drew)); exact Kd.R_mono (Kd.R_far (p := ⟨gb209, 1, none⟩) (Kd.R_far (p := ⟨gb209, 0, none⟩) (Kd.R_types HO205.out BK209.out (by decide)) (fun _ hk => hk.2) (.int .i64 t206)) (fun _ hk => hk.2) (.int .i64 t207)) (fun _ hk => hk.1.2)⟩
                                              have n2_ : Aside0 (((w62.setCell ⟨gb209, 0, none⟩ (.int .i64 t206)).setCell ⟨gb209, 1, none⟩ (.int .i64 t207)).heap[gb184]? = some (.cells #[.int .i64 t181, .int .i64 t182] 24 (0, 0))) := ⟨by (with_reducible repeat (first | refine blk_drewN ?_ _ | refine blk_drew ?_ | refine blk_alloc ?_ _)); refine blk_far ?_ NB184_209.out _; (with_reducible repeat (first | refine blk_drewN ?_ _ | refine blk_drew ?_ | refine blk_alloc ?_ _)); refine blk_far ?_ NB184_209.out _; (with_reducible repeat (first | refine blk_drewN ?_ _ | refine blk_drew ?_ | refine blk_alloc ?_ _)); exact BK184.out⟩
                                              have n3_ : Aside0 (((w62.setCell ⟨gb209, 0, none⟩ (.int .i64 t206)).setCell ⟨gb209, 1, none⟩ (.int .i64 t207)).heap[gb209]? = some (.cells #[.int .i64 t206, .int .i64 t207] 24 (0, 0))) := ⟨by (with_reducible repeat (first | refine blk_drewN ?_ _ | refine blk_drew ?_ | refine blk_alloc ?_ _)); refine blk_put (cs := #[.int .i64 t206, .int .i64 0]) ?_ 1 _ rfl; (with_reducible repeat (first | refine blk_drewN ?_ _ | refine blk_drew ?_ | refine blk_alloc ?_ _)); refine blk_put (cs := #[.int .i64 0, .int .i64 0]) ?_ 0 _ rfl; (with_reducible repeat (first | refine blk_drewN ?_ _ | refine blk_drew ?_ | refine blk_alloc ?_ _)); exact BK209.out⟩
                                              have n4_ : Aside0 (Below w.heap.size w ((w62.setCell ⟨gb209, 0, none⟩ (.int .i64 t206)).setCell ⟨gb209, 1, none⟩ (.int .i64 t207))) := ⟨by repeat (first | (with_reducible first | exact HB.out | apply below_alloc | apply pw_below_drewN | apply below_drew1 | refine below_set ?_ GE184.out | refine below_set ?_ GE209.out) | exact HB.out)⟩
                                              (try clear HO_3)
                                              (try clear HO205)
                                              (try clear BK184)
                                              (try clear BK209)
                                              (try clear HB)
                                              generalize ((w62.setCell ⟨gb209, 0, none⟩ (.int .i64 t206)).setCell ⟨gb209, 1, none⟩ (.int .i64 t207)) = w65 at n0_ n1_ n2_ n3_ n4_ ⊢
                                              have HO_3 := n0_
                                              have HO205 := n1_
                                              have BK184 := n2_
                                              have BK209 := n3_
                                              have HB := n4_
                                              clear n0_ n1_ n2_ n3_ n4_
                                              have n0_ := Aside0.mk (Kd.R_drew HO_3.out)
                                              have n1_ := Aside0.mk (Kd.R_drew HO205.out)
                                              have n2_ := Aside0.mk (blk_drew BK184.out)
                                              have n3_ := Aside0.mk (blk_drew BK209.out)
                                              have n4_ := Aside0.mk (below_drew1 HB.out)
                                              clear HO_3
                                              clear HO205
                                              clear BK184
                                              clear BK209
                                              clear HB
                                              have HO_3 := n0_
                                              have HO205 := n1_
                                              have BK184 := n2_
                                              have BK209 := n3_
                                              have HB := n4_
                                              clear n0_ n1_ n2_ n3_ n4_
                                              obtain ⟨Ao67, co67, eo67⟩ := Kd.R_slice HO205.out
                                              (first | subst eo67 | (injection eo67 with f1_ f2_ f3_; have f4_ := f1_.symm; have f5_ := f3_.symm; clear f1_ f2_ f3_; subst f4_; subst f5_))
                                              have p210 : 0 ≤ (x11_2 : Int) := of_decide_eq_true (by first | (with_reducible assumption) | assumption)
                                              have q210 : x11_2 < (t203.length : Int) := of_decide_eq_true (by first | (with_reducible assumption) | assumption)
                                              obtain ⟨ad210, e210, hx210_0, hx210_1, hx210_2, hx210_3, hx210_4⟩ := at_T30 (Kd.R_reads' HO205.out).2.2 x11_2 p210 q210
                                              cases e210
                                              replace p210 := eq_true p210
                                              replace q210 := eq_true q210
                                              have p211 : 0 ≤ (x11_2 : Int) := of_decide_eq_true (by first | (with_reducible assumption) | assumption)
                                              have q211 : x11_2 < (t178.length : Int) := of_decide_eq_true (by first | (with_reducible assumption) | assumption)
                                              obtain ⟨ad211, e211, hx211_0, hx211_1, hx211_2, hx211_3, hx211_4⟩ := at_T30 (Kd.R_reads' HO_3.out).2.2 x11_2 p211 q211
                                              obtain rfl : ad196 = ad211 := (by injection e211)
                                              replace p211 := eq_true p211
                                              replace q211 := eq_true q211
                                              refine start_ (n := 20) (S := fun w' => w'.cell? (ad210.add ((x11_2).toNat * 5)) = some (.int .i64 ((rd_T30 t203 x11_2).f0)) ∧ w'.cell? ⟨(ad210.add ((x11_2).toNat * 5)).block, (ad210.add ((x11_2).toNat * 5)).off + 1, none⟩ = some (.string ((rd_T30 t203 x11_2).f1)) ∧ w'.cell? ⟨(ad210.add ((x11_2).toNat * 5)).block, (ad210.add ((x11_2).toNat * 5)).off + 2, none⟩ = some (.int .u16 ((rd_T30 t203 x11_2).f2)) ∧ w'.cell? ⟨(ad210.add ((x11_2).toNat * 5)).block, (ad210.add ((x11_2).toNat * 5)).off + 3, none⟩ = some (.int .i64 ((rd_T30 t203 x11_2).f3.f0)) ∧ w'.cell? ⟨(ad210.add ((x11_2).toNat * 5)).block, (ad210.add ((x11_2).toNat * 5)).off + 4, none⟩ = some (.int .i64 ((rd_T30 t203 x11_2).f3.f1)) ∧ w'.cell? (ad196.add ((x11_2).toNat * 5)) = some (.int .i64 ((rd_T30 t178 x11_2).f0)) ∧ w'.cell? ⟨(ad196.add ((x11_2).toNat * 5)).block, (ad196.add ((x11_2).toNat * 5)).off + 1, none⟩ = some (.string ((rd_T30 t178 x11_2).f1)) ∧ w'.cell? ⟨(ad196.add ((x11_2).toNat * 5)).block, (ad196.add ((x11_2).toNat * 5)).off + 2, none⟩ = some (.int .u16 ((rd_T30 t178 x11_2).f2)) ∧ w'.cell? ⟨(ad196.add ((x11_2).toNat * 5)).block, (ad196.add ((x11_2).toNat * 5)).off + 3, none⟩ = some (.int .i64 ((rd_T30 t178 x11_2).f3.f0)) ∧ w'.cell? ⟨(ad196.add ((x11_2).toNat * 5)).block, (ad196.add ((x11_2).toNat * 5)).off + 4, none⟩ = some (.int .i64 ((rd_T30 t178 x11_2).f3.f1))) (ds := []) #[false, false, false, false, false, false, false, false, false, false, false, false, false, false, false, false, false, false, false, false] (by kernel_rfl) rfl rfl ⟨hx210_0, hx210_1, hx210_2, hx210_3, hx210_4, hx211_0, hx211_1, hx211_2, hx211_3, hx211_4⟩ (fun hHeld => ?_); refine with_tabW wisplaw09_TokenPlaces.tab21 wisplaw09_TokenPlaces.bits21 (fun HT_ HW_ => ?_)
                                              generalize w65.drew = w66 at HO_3 HO205 BK184 BK209 HB hx210_0 hx210_1 hx210_2 hx210_3 hx210_4 hx211_0 hx211_1 hx211_2 hx211_3 hx211_4 hHeld ⊢
                                              refine pure_ (i := 0) (N := some 154) (v := ?_) (a' := ?_) #[true, false, false, false, false, false, false, false, false, false, false, false, false, false, false, false, false, false, false, false] rfl rfl (any_of HT_.out (by kernel_rfl)) (fun _ _ _ h => h) (Or.inl ⟨by rfl, ?_⟩) ?_ ?_
                                              rotate_left
                                              · intro w'
                                                go_simp
                                                with_reducible rfl
                                              rotate_left
                                              · simp only [Act.put, List.setIfInBounds_toArray, List.set_cons_zero, List.set_cons_succ, i64_w, i32_w]
                                                rfl
                                              refine pure_ (i := 1) (N := some 155) (v := ?_) (a' := ?_) #[true, true, false, false, false, false, false, false, false, false, false, false, false, false, false, false, false, false, false, false] rfl rfl (any_of HT_.out (by kernel_rfl)) (fun _ _ _ h => h) (Or.inl ⟨by rfl, ?_⟩) ?_ ?_
                                              rotate_left
                                              · intro w'
                                                go_simp
                                                with_reducible rfl
                                              rotate_left
                                              · simp only [Act.put, List.setIfInBounds_toArray, List.set_cons_zero, List.set_cons_succ, i64_w, i32_w]
                                                rfl
                                              refine pure_ (i := 2) (N := some 156) (v := ?_) (a' := ?_) #[true, true, true, false, false, false, false, false, false, false, false, false, false, false, false, false, false, false, false, false] rfl rfl (any_of HT_.out (by kernel_rfl)) (fun _ _ _ h => h) (Or.inl ⟨by rfl, ?_⟩) ?_ ?_
                                              rotate_left
                                              · intro w'
                                                go_simp
                                                with_reducible rfl
                                              rotate_left
                                              · simp only [Act.put, List.setIfInBounds_toArray, List.set_cons_zero, List.set_cons_succ, i64_w, i32_w]
                                                rfl
                                              refine pure_ (i := 3) (N := some 157) (v := ?_) (a' := ?_) #[true, true, true, true, false, false, false, false, false, false, false, false, false, false, false, false, false, false, false, false] rfl rfl (any_of HT_.out (by kernel_rfl)) (fun _ _ _ h => h) (Or.inl ⟨by rfl, ?_⟩) ?_ ?_
                                              rotate_left
                                              · intro w'
                                                go_simp
                                                with_reducible rfl
                                              rotate_left
                                              · simp only [Act.put, List.setIfInBounds_toArray, List.set_cons_zero, List.set_cons_succ, i64_w, i32_w]
                                                rfl
                                              refine pure_ (i := 4) (N := some 158) (v := ?_) (a' := ?_) #[true, true, true, true, true, false, false, false, false, false, false, false, false, false, false, false, false, false, false, false] rfl rfl (any_of HT_.out (by kernel_rfl)) (fun _ _ _ h => h) (Or.inl ⟨by rfl, ?_⟩) ?_ ?_
                                              rotate_left
                                              · intro w'
                                                go_simp
                                                with_reducible rfl
                                              rotate_left
                                              · simp only [Act.put, List.setIfInBounds_toArray, List.set_cons_zero, List.set_cons_succ, i64_w, i32_w]
                                                rfl
                                              refine pure_ (i := 5) (N := some 159) (v := ?_) (a' := ?_) #[true, true, true, true, true, true, false, false, false, false, false, false, false, false, false, false, false, false, false, false] rfl rfl (any_of HT_.out (by kernel_rfl)) (fun _ _ _ h => h) (Or.inl ⟨by rfl, ?_⟩) ?_ ?_
                                              rotate_left
                                              · intro w'
                                                go_simp
                                                with_reducible rfl
                                              rotate_left
                                              · simp only [Act.put, List.setIfInBounds_toArray, List.set_cons_zero, List.set_cons_succ, i64_w, i32_w]
                                                rfl
                                              refine pure_ (i := 6) (N := some 160) (v := ?_) (a' := ?_) #[true, true, true, true, true, true, true, false, false, false, false, false, false, false, false, false, false, false, false, false] rfl rfl (any_of HT_.out (by kernel_rfl)) (fun _ _ _ h => h) (Or.inl ⟨by rfl, ?_⟩) ?_ ?_
                                              rotate_left
                                              · intro w'
                                                go_simp
                                                with_reducible rfl
                                              rotate_left
                                              · simp only [Act.put, List.setIfInBounds_toArray, List.set_cons_zero, List.set_cons_succ, i64_w, i32_w]
                                                rfl
                                              refine pure_ (i := 7) (N := some 161) (v := ?_) (a' := ?_) #[true, true, true, true, true, true, true, true, false, false, false, false, false, false, false, false, false, false, false, false] rfl rfl (any_of HT_.out (by kernel_rfl)) (fun _ _ _ h => h) (Or.inl ⟨by rfl, ?_⟩) ?_ ?_
                                              rotate_left
                                              · intro w'
                                                go_simp
                                                with_reducible rfl
                                              rotate_left
                                              · simp only [Act.put, List.setIfInBounds_toArray, List.set_cons_zero, List.set_cons_succ, i64_w, i32_w]
                                                rfl
                                              refine pure_ (i := 8) (N := some 162) (v := ?_) (a' := ?_) #[true, true, true, true, true, true, true, true, true, false, false, false, false, false, false, false, false, false, false, false] rfl rfl (any_of HT_.out (by kernel_rfl)) (fun _ _ _ h => h) (Or.inl ⟨by rfl, ?_⟩) ?_ ?_
                                              rotate_left
                                              · intro w'
                                                go_simp
                                                with_reducible rfl
                                              rotate_left
                                              · simp only [Act.put, List.setIfInBounds_toArray, List.set_cons_zero, List.set_cons_succ, i64_w, i32_w]
                                                rfl
                                              refine pure_ (i := 9) (N := some 163) (v := ?_) (a' := ?_) #[true, true, true, true, true, true, true, true, true, true, false, false, false, false, false, false, false, false, false, false] rfl rfl (any_of HT_.out (by kernel_rfl)) (fun _ _ _ h => h) (Or.inl ⟨by rfl, ?_⟩) ?_ ?_
                                              rotate_left
                                              · intro w'
                                                go_simp
                                                with_reducible rfl
                                              rotate_left
                                              · simp only [Act.put, List.setIfInBounds_toArray, List.set_cons_zero, List.set_cons_succ, i64_w, i32_w]
                                                rfl
                                              refine pure_ (i := 10) (N := some 164) (v := ?_) (a' := ?_) #[true, true, true, true, true, true, true, true, true, true, true, false, false, false, false, false, false, false, false, false] rfl rfl (any_of HT_.out (by kernel_rfl)) (fun _ _ _ h => h) (Or.inl ⟨by rfl, ?_⟩) ?_ ?_
                                              rotate_left
                                              · intro w'
                                                go_simp
                                                with_reducible rfl
                                              rotate_left
                                              · simp only [Act.put, List.setIfInBounds_toArray, List.set_cons_zero, List.set_cons_succ, i64_w, i32_w]
                                                rfl
                                              refine pure_ (i := 11) (N := some 165) (v := ?_) (a' := ?_) #[true, true, true, true, true, true, true, true, true, true, true, true, false, false, false, false, false, false, false, false] rfl rfl (any_of HT_.out (by kernel_rfl)) (fun _ _ _ h => h) (Or.inl ⟨by rfl, ?_⟩) ?_ ?_
                                              rotate_left
                                              · intro w'
                                                go_simp
                                                with_reducible rfl
                                              rotate_left
                                              · simp only [Act.put, List.setIfInBounds_toArray, List.set_cons_zero, List.set_cons_succ, i64_w, i32_w]
                                                rfl
                                              refine pure_ (i := 12) (N := some 166) (v := ?_) (a' := ?_) #[true, true, true, true, true, true, true, true, true, true, true, true, true, false, false, false, false, false, false, false] rfl rfl (any_of HT_.out (by kernel_rfl)) (fun _ _ _ h => h) (Or.inl ⟨by rfl, ?_⟩) ?_ ?_
                                              rotate_left
                                              · intro w'
                                                go_simp
                                                with_reducible rfl
                                              rotate_left
                                              · simp only [Act.put, List.setIfInBounds_toArray, List.set_cons_zero, List.set_cons_succ, i64_w, i32_w]
                                                rfl
                                              refine pure_ (i := 14) (N := some 168) (v := ?_) (a' := ?_) #[true, true, true, true, true, true, true, true, true, true, true, true, true, false, true, false, false, false, false, false] rfl rfl (any_of HT_.out (by kernel_rfl)) (fun _ _ _ h => h) (Or.inl ⟨by rfl, ?_⟩) ?_ ?_
                                              rotate_left
                                              · intro w'
                                                go_simp
                                                with_reducible rfl
                                              rotate_left
                                              · simp only [Act.put, List.setIfInBounds_toArray, List.set_cons_zero, List.set_cons_succ, i64_w, i32_w]
                                                rfl
                                              refine pure_ (i := 15) (N := some 169) (v := ?_) (a' := ?_) #[true, true, true, true, true, true, true, true, true, true, true, true, true, false, true, true, false, false, false, false] rfl rfl (any_of HT_.out (by kernel_rfl)) (fun _ _ _ h => h) (Or.inl ⟨by rfl, ?_⟩) ?_ ?_
                                              rotate_left
                                              · intro w'
                                                go_simp
                                                with_reducible rfl
                                              rotate_left
                                              · simp only [Act.put, List.setIfInBounds_toArray, List.set_cons_zero, List.set_cons_succ, i64_w, i32_w]
                                                rfl
                                              refine pure_ (i := 16) (N := some 170) (v := ?_) (a' := ?_) #[true, true, true, true, true, true, true, true, true, true, true, true, true, false, true, true, true, false, false, false] rfl rfl (any_of HT_.out (by kernel_rfl)) (fun _ _ _ h => h) (Or.inl ⟨by rfl, ?_⟩) ?_ ?_
                                              rotate_left
                                              · intro w'
                                                go_simp
                                                with_reducible rfl
                                              rotate_left
                                              · simp only [Act.put, List.setIfInBounds_toArray, List.set_cons_zero, List.set_cons_succ, i64_w, i32_w]
                                                rfl
                                              refine take_ (i := 13) (N := some 167) (v := ?_) (a' := ?_) #[true, true, true, true, true, true, true, true, true, true, true, true, true, true, true, true, true, false, false, false] rfl rfl (take_ofW HT_.out HW_.out (by kernel_rfl)) (fun _ _ _ h => h) (Or.inl ⟨by rfl, ?_⟩) hHeld ?_ ?_
                                              rotate_left
                                              · rintro w' ⟨s0, s1, s2, s3, s4, s5, s6, s7, s8, s9⟩
                                                go_simp
                                                with_reducible rfl
                                              rotate_left
                                              · simp only [Act.put, List.setIfInBounds_toArray, List.set_cons_zero, List.set_cons_succ, i64_w, i32_w]
                                                rfl
                                              refine take_ (i := 17) (N := some 171) (v := ?_) (a' := ?_) #[true, true, true, true, true, true, true, true, true, true, true, true, true, true, true, true, true, true, false, false] rfl rfl (take_ofW HT_.out HW_.out (by kernel_rfl)) (fun _ _ _ h => h) (Or.inl ⟨by rfl, ?_⟩) hHeld ?_ ?_
                                              rotate_left
                                              · rintro w' ⟨s0, s1, s2, s3, s4, s5, s6, s7, s8, s9⟩
                                                go_simp
                                                with_reducible rfl
                                              rotate_left
                                              · simp only [Act.put, List.setIfInBounds_toArray, List.set_cons_zero, List.set_cons_succ, i64_w, i32_w]
                                                rfl
                                              refine pure_ (i := 18) (N := some 172) (v := ?_) (a' := ?_) #[true, true, true, true, true, true, true, true, true, true, true, true, true, true, true, true, true, true, true, false] rfl rfl (any_of HT_.out (by kernel_rfl)) (fun _ _ _ h => h) (Or.inl ⟨by rfl, ?_⟩) ?_ ?_
                                              rotate_left
                                              · intro w'
                                                go_simp
                                                with_reducible rfl
                                              rotate_left
                                              · simp only [Act.put, List.setIfInBounds_toArray, List.set_cons_zero, List.set_cons_succ, i64_w, i32_w]
                                                rfl
                                              refine pure_ (i := 19) (N := some 173) (v := ?_) (a' := ?_) #[true, true, true, true, true, true, true, true, true, true, true, true, true, true, true, true, true, true, true, true] rfl rfl (any_of HT_.out (by kernel_rfl)) (fun _ _ _ h => h) (Or.inl ⟨by rfl, ?_⟩) ?_ ?_
                                              rotate_left
                                              · intro w'
                                                go_simp
                                                with_reducible rfl
                                              rotate_left
                                              · simp only [Act.put, List.setIfInBounds_toArray, List.set_cons_zero, List.set_cons_succ, i64_w, i32_w]
                                                rfl
                                              refine done_ (done_of HT_.out (by kernel_rfl)) ?_
                                              try go_wp2
                                              go_roundg kj21
                                              case measure => have := HJ1.out; have := HK2.out; have := HJ13.out; have := HJ21.out; omega
                                              case rel => exact ⟨(ji44), (wrap64 (x11_2 + 1)), (by first | rfl | (simp; done) | (simp only [← hji44] <;> (first | rfl | simp)) | (simp [*]; done) | (simp [isEmpty_ne]; done)), (by first | rfl | (simp; done) | (simp [*]; done) | (simp [isEmpty_ne]; done)), H', ⟨by have := HJ1.out; have := HK2.out; have := HJ13.out; have := HJ21.out; omega⟩, ⟨by (with_reducible repeat (first | apply Kd.R_alloc | apply Kd.R_drewN | apply Kd.R_drew)); exact Kd.R_mono HO_3.out (fun _ hk => trivial)⟩, ⟨by (with_reducible repeat (first | refine blk_drewN ?_ _ | refine blk_drew ?_ | refine blk_alloc ?_ _)); exact BK184.out⟩, ⟨by repeat (first | (with_reducible first | exact HB.out | apply below_alloc | apply pw_below_drewN | apply below_drew1 | refine below_set ?_ GE184.out | refine below_set ?_ GE209.out) | exact HB.out)⟩⟩
                                          · rw [if_neg c52] at H
                                            exact absurd H (by simp)
                                        · rw [if_neg c51] at H
                                          exact absurd H (by simp)
                                      · rw [if_neg c50] at H
                                        exact absurd H (by simp)
                                    · rw [if_neg c49] at H
                                      exact absurd H (by simp)
                                  · rw [if_neg c48] at H
                                    exact absurd H (by simp)
                                · rw [if_neg c46] at H
                                  exact absurd H (by simp)
                              · rw [if_neg c45] at H
                                exact absurd H (by simp)
                      · rw [if_neg c20] at H
                        exact absurd H (by simp)
                    · rw [if_neg c19] at H
                      exact absurd H (by simp)
                  · replace c18 := Bool.eq_false_iff.mpr c18
                    subst c18
                    have H1 : (some (t181 == 0 && (t182 == 0))) = some r := by rw [if_neg (show ¬ (false = true) by decide)] at H; exact H
                    clear H
                    have H := H1
                    clear H1
                    obtain rfl := Option.some.inj H
                    have hcz81_0 : wc.cell? ⟨gb184, 0, none⟩ = some (.int .i64 t181) := (blk_cell BK184.out 0).trans rfl
                    have hcz81_1 : wc.cell? ⟨gb184, 1, none⟩ = some (.int .i64 t182) := (blk_cell BK184.out 1).trans rfl
                    have hfz81_0 := blk_frozen BK184.out 0
                    have hfz81_1 := blk_frozen BK184.out 1
                    go_wp2
                    go_ret
                    exact ⟨by first | rfl | (simp [errW_none, errW_some] <;> rfl) | (simp [*, errW_none, errW_some] <;> rfl), by repeat (first | (with_reducible first | exact HB.out | apply below_alloc | apply pw_below_drewN | apply below_drew1 | refine below_set ?_ GE184.out) | exact HB.out)⟩
        · rw [if_neg c9] at H
          have c9b0 : (t183 == 0) = false := beq_eq_false_iff_ne.mpr c9
          have c9b1 : (t183 != 0) = true := bne_iff_ne.mpr c9
          replace H := Option.bind_eq_some_iff.mp H
          obtain ⟨t186, A820, H⟩ := H
          replace H : (if t186 < 0 then (none) else (if (t178.length : Int) = 0 then (if t183 = 91 then (wisplaw09_TokenPlaces.j1 kj1 x0_1 t186 false t181 t182) else (if t183 = 92 then (wisplaw09_TokenPlaces.j1 kj1 x0_1 t186 false t181 t182) else (if t183 = 93 then (wisplaw09_TokenPlaces.j1 kj1 x0_1 t186 false t181 t182) else (wisplaw09_TokenPlaces.j1 kj1 x0_1 t186 (t183 != 21) t181 t182)))) else (none))) = some r := H
          have A82 := Aside0.mk A820
          clear A820
          have HC83 := Aside0.mk H
          clear H
          go_upto_region 8 with (first | ((with_reducible refine gate_callee (f := 8) rfl ?_); refine goesL_ (some 24) rfl rfl Try.func8 (by kernel_rfl) rfl #[.string x0_1] rfl (by (try simp only [List.map_toArray, List.map_cons, List.map_nil]); first | done | rfl | (simp only [List.length_drop, List.length_take]; rfl)) ?_; (with_reducible refine (token_Scan.calls kj1 x0_1 t178 t181 t182 t183 _ A6.out).mono ?_); rintro e w84 ⟨v179, rfl, ho0, hb⟩; refine ⟨_, rfl, ?_⟩; have n0_ := Aside0.mk (Kd.R_lower ho0 (below_size (by repeat (first | (with_reducible first | exact HB.out | apply below_alloc | apply pw_below_drewN | apply below_drew1) | exact HB.out)))); have n1_ := Aside0.mk (below_step (by repeat (first | (with_reducible first | exact HB.out | apply below_alloc | apply pw_below_drewN | apply below_drew1) | exact HB.out)) hb); clear HB; have HO180 := n0_; have HB := n1_; clear n0_ n1_; (try clear hb); (try clear hb2); (try clear hk); (try clear hi); (try clear ho0)) | ((with_reducible refine gate_dst (N := 4) rfl ?_); (try (refine gate_guard (by rfl) ?_; dsimp only)); refine box_event ?hg (N := 4) ?hd (cs := #[.int .i64 0, .int .i64 0]) (t := 24) ?hr ?_; (case hd => rfl); (case hg => rfl); (case hr => first | (go_simp; done) | (go_simp; rfl)); intro gb184 hg w85 hbox hb; have n0_ := Aside0.mk (Kd.R_below (by (with_reducible repeat (first | apply Kd.R_alloc | apply Kd.R_drewN | apply Kd.R_drew)); exact HO180.out) hb); have n1_ := Aside0.mk (below_step (by repeat (first | (with_reducible first | exact HB.out | apply below_alloc | apply pw_below_drewN | apply below_drew1) | exact HB.out)) hb); have n2_ := Aside0.mk (hbox); have n3_ := Aside0.mk ((by rw [hg]; exact (below_size (by repeat (first | (with_reducible first | exact HB.out | apply below_alloc | apply pw_below_drewN | apply below_drew1) | exact HB.out))) : w.heap.size ≤ gb184)); have n4_ := Aside0.mk ((by rw [hg]; exact (below_size (by repeat (first | (with_reducible first | exact HB.out | apply below_alloc | apply pw_below_drewN | apply below_drew1) | exact HB.out))) : w.heap.size ≤ gb184)); clear HO180; clear HB; have HO180 := n0_; have HB := n1_; have BK184 := n2_; have GW184 := n3_; have GE184 := n4_; clear n0_ n1_ n2_ n3_ n4_; clear hb hbox hg; have hcz86_0 : w85.cell? ⟨gb184, 0, none⟩ = some (.int .i64 0) := (blk_cell BK184.out 0).trans rfl; have hcz86_1 : w85.cell? ⟨gb184, 1, none⟩ = some (.int .i64 0) := (blk_cell BK184.out 1).trans rfl; have hfz86_0 := blk_frozen BK184.out 0; have hfz86_1 := blk_frozen BK184.out 1) | ((with_reducible refine gate_callee (f := 9) rfl ?_); refine goesL_ (some 28) rfl rfl Try.func9 (by kernel_rfl) rfl #[] rfl (by (try simp only [List.map_toArray, List.map_cons, List.map_nil]); first | done | rfl | (simp only [List.length_drop, List.length_take]; rfl)) ?_; (with_reducible refine (wisplaw09_fixed.calls kj1  true _ A7.out).mono ?_); rintro e w87 ⟨rfl, hb⟩; refine ⟨_, rfl, ?_⟩; have n0_ := Aside0.mk (Kd.R_below (by (with_reducible repeat (first | apply Kd.R_alloc | apply Kd.R_drewN | apply Kd.R_drew)); exact (Kd.R_mono (Kd.R_far (p := ⟨gb184, 1, none⟩) (Kd.R_far (p := ⟨gb184, 0, none⟩) (Kd.R_types HO180.out BK184.out (by decide)) (fun _ hk => hk.2) (.int .i64 t181)) (fun _ hk => hk.2) (.int .i64 t182)) (fun _ h_ => h_.1))) hb); have n1_ := Aside0.mk (blk_below (g := gb184) (o := .cells #[.int .i64 t181, .int .i64 t182] 24 (0, 0)) (by (with_reducible repeat (first | refine blk_drewN ?_ _ | refine blk_drew ?_ | refine blk_alloc ?_ _)); refine blk_put (cs := #[.int .i64 t181, .int .i64 0]) ?_ 1 _ rfl; (with_reducible repeat (first | refine blk_drewN ?_ _ | refine blk_drew ?_ | refine blk_alloc ?_ _)); refine blk_put (cs := #[.int .i64 0, .int .i64 0]) ?_ 0 _ rfl; (with_reducible repeat (first | refine blk_drewN ?_ _ | refine blk_drew ?_ | refine blk_alloc ?_ _)); exact BK184.out) hb); have n2_ := Aside0.mk (below_step (by repeat (first | (with_reducible first | exact HB.out | apply below_alloc | apply pw_below_drewN | apply below_drew1 | refine below_set ?_ GE184.out) | exact HB.out)) hb); clear HO180; clear BK184; clear HB; have HO180 := n0_; have BK184 := n1_; have HB := n2_; clear n0_ n1_ n2_; (try clear hb); (try clear hb2); (try clear hk); (try clear hi); have hcz88_0 : w87.cell? ⟨gb184, 0, none⟩ = some (.int .i64 t181) := (blk_cell BK184.out 0).trans rfl; have hcz88_1 : w87.cell? ⟨gb184, 1, none⟩ = some (.int .i64 t182) := (blk_cell BK184.out 1).trans rfl; have hfz88_0 := blk_frozen BK184.out 0; have hfz88_1 := blk_frozen BK184.out 1) | ((with_reducible refine gate_callee (f := 18) rfl ?_); refine goesL_ (some 34) rfl rfl Try.func18 (by kernel_rfl) rfl #[.string x0_1, .agg #[.int .i64 t181, .int .i64 t182]] rfl (by (try simp only [List.map_toArray, List.map_cons, List.map_nil]); first | done | rfl | (simp only [List.length_drop, List.length_take]; rfl)) ?_; (with_reducible refine (wisplaw09_offset.calls kj1 x0_1 t181 t182 t186 _ A82.out).mono ?_); rintro e w89 ⟨rfl, hb⟩; refine ⟨_, rfl, ?_⟩; have n0_ := Aside0.mk (Kd.R_below (by (with_reducible repeat (first | apply Kd.R_alloc | apply Kd.R_drewN | apply Kd.R_drew)); exact HO180.out) hb); have n1_ := Aside0.mk (blk_below (g := gb184) (o := .cells #[.int .i64 t181, .int .i64 t182] 24 (0, 0)) (by (with_reducible repeat (first | refine blk_drewN ?_ _ | refine blk_drew ?_ | refine blk_alloc ?_ _)); exact BK184.out) hb); have n2_ := Aside0.mk (below_step (by repeat (first | (with_reducible first | exact HB.out | apply below_alloc | apply pw_below_drewN | apply below_drew1 | refine below_set ?_ GE184.out) | exact HB.out)) hb); clear HO180; clear BK184; clear HB; have HO180 := n0_; have BK184 := n1_; have HB := n2_; clear n0_ n1_ n2_; (try clear hb); (try clear hb2); (try clear hk); (try clear hi)))
          (try simp only [Act.put, List.setIfInBounds_toArray, List.set_cons_zero, List.set_cons_succ])
          go_cut [57] (fun v57 wc => ∃ (kq : Nat) (x57_82 : Bool), v57 = .bool x57_82 ∧ Aside0 (wisplaw09_TokenPlaces.j1 kq x0_1 t186 x57_82 t181 t182 = some r) ∧ Aside0 (kq ≤ kj1) ∧ Aside0 (wc.heap[gb184]? = some (.cells #[.int .i64 t181, .int .i64 t182] 24 (0, 0))) ∧ Aside0 (Below w.heap.size w wc))
          case first =>
            have H := HC83.out
            clear HC83
            by_cases c90 : t186 < 0
            · rw [if_pos c90] at H
              exact absurd H (by simp)
            · rw [if_neg c90] at H
              have c90b0 : decide (t186 < 0) = false := decide_eq_false c90
              clear c90
              (first | rw [c90b0] | (simp only [i64_w, i32_w]; rw [c90b0]) | skip)
              by_cases c91 : (t178.length : Int) = 0
              · rw [if_pos c91] at H
                have c91b0 : ((t178.length : Int) == 0) = true := beq_iff_eq.mpr c91
                have c91b1 : ((t178.length : Int) != 0) = false := bne_eq_false_iff_eq.mpr c91
                clear c91
                by_cases c92 : t183 = 91
                · rw [if_pos c92] at H
                  have c92b0 : (t183 == 91) = true := beq_iff_eq.mpr c92
                  have c92b1 : (t183 != 91) = false := bne_eq_false_iff_eq.mpr c92
                  clear c92
                  have H' := Aside0.mk H
                  clear H
                  obtain ⟨Ao93, co93, eo93⟩ := Kd.R_slice HO180.out
                  subst eo93
                  go_wp2
                  go_meet
                  case rel => exact ⟨_, (false), (by first | rfl | (simp; done) | (simp [*]; done) | (simp [isEmpty_ne]; done)), H', ⟨by have := HJ1.out; first | omega | exact Nat.le_refl _⟩, ⟨by (with_reducible repeat (first | refine blk_drewN ?_ _ | refine blk_drew ?_ | refine blk_alloc ?_ _)); exact BK184.out⟩, ⟨by repeat (first | (with_reducible first | exact HB.out | apply below_alloc | apply pw_below_drewN | apply below_drew1 | refine below_set ?_ GE184.out) | exact HB.out)⟩⟩
                · rw [if_neg c92] at H
                  have c92b0 : (t183 == 91) = false := beq_eq_false_iff_ne.mpr c92
                  have c92b1 : (t183 != 91) = true := bne_iff_ne.mpr c92
                  by_cases c94 : t183 = 92
                  · rw [if_pos c94] at H
                    have c94b0 : (t183 == 92) = true := beq_iff_eq.mpr c94
                    have c94b1 : (t183 != 92) = false := bne_eq_false_iff_eq.mpr c94
                    clear c94
                    have H' := Aside0.mk H
                    clear H
                    obtain ⟨Ao95, co95, eo95⟩ := Kd.R_slice HO180.out
                    subst eo95
                    go_wp2
                    go_meet
                    case rel => exact ⟨_, (false), (by first | rfl | (simp; done) | (simp [*]; done) | (simp [isEmpty_ne]; done)), H', ⟨by have := HJ1.out; first | omega | exact Nat.le_refl _⟩, ⟨by (with_reducible repeat (first | refine blk_drewN ?_ _ | refine blk_drew ?_ | refine blk_alloc ?_ _)); exact BK184.out⟩, ⟨by repeat (first | (with_reducible first | exact HB.out | apply below_alloc | apply pw_below_drewN | apply below_drew1 | refine below_set ?_ GE184.out) | exact HB.out)⟩⟩
                  · rw [if_neg c94] at H
                    have c94b0 : (t183 == 92) = false := beq_eq_false_iff_ne.mpr c94
                    have c94b1 : (t183 != 92) = true := bne_iff_ne.mpr c94
                    by_cases c96 : t183 = 93
                    · rw [if_pos c96] at H
                      have c96b0 : (t183 == 93) = true := beq_iff_eq.mpr c96
                      have c96b1 : (t183 != 93) = false := bne_eq_false_iff_eq.mpr c96
                      clear c96
                      have H' := Aside0.mk H
                      clear H
                      obtain ⟨Ao97, co97, eo97⟩ := Kd.R_slice HO180.out
                      subst eo97
                      go_wp2
                      go_meet
                      case rel => exact ⟨_, (false), (by first | rfl | (simp; done) | (simp [*]; done) | (simp [isEmpty_ne]; done)), H', ⟨by have := HJ1.out; first | omega | exact Nat.le_refl _⟩, ⟨by (with_reducible repeat (first | refine blk_drewN ?_ _ | refine blk_drew ?_ | refine blk_alloc ?_ _)); exact BK184.out⟩, ⟨by repeat (first | (with_reducible first | exact HB.out | apply below_alloc | apply pw_below_drewN | apply below_drew1 | refine below_set ?_ GE184.out) | exact HB.out)⟩⟩
                    · rw [if_neg c96] at H
                      have c96b0 : (t183 == 93) = false := beq_eq_false_iff_ne.mpr c96
                      have c96b1 : (t183 != 93) = true := bne_iff_ne.mpr c96
                      have H' := Aside0.mk H
                      clear H
                      obtain ⟨Ao98, co98, eo98⟩ := Kd.R_slice HO180.out
                      subst eo98
                      go_wp2
                      go_meet
                      case rel => exact ⟨_, ((t183 != 21)), (by first | rfl | (simp; done) | (simp [*]; done) | (simp [isEmpty_ne]; done)), H', ⟨by have := HJ1.out; first | omega | exact Nat.le_refl _⟩, ⟨by (with_reducible repeat (first | refine blk_drewN ?_ _ | refine blk_drew ?_ | refine blk_alloc ?_ _)); exact BK184.out⟩, ⟨by repeat (first | (with_reducible first | exact HB.out | apply below_alloc | apply pw_below_drewN | apply below_drew1 | refine below_set ?_ GE184.out) | exact HB.out)⟩⟩
              · rw [if_neg c91] at H
                exact absurd H (by simp)
          case rest =>
            clear HC83
            try clear c1
            try clear c2
            try clear p2
            try clear c4
            try clear c5
            try clear p6
            try clear c7
            try clear c8
            try clear c9
            try clear c9b0
            try clear c9b1
            try clear c18
            try clear c19
            try clear c20
            try clear c45
            try clear c46
            try clear c48
            try clear c48b0
            try clear c48b1
            try clear c49
            try clear c49b0
            try clear c49b1
            try clear c50
            try clear c51
            try clear c52
            try clear p64
            try clear c70
            try clear c77
            try clear c90
            try clear c90b0
            try clear c91
            try clear c91b0
            try clear c91b1
            try clear c91b2
            try clear c92
            try clear c92b0
            try clear c92b1
            try clear c94
            try clear c94b0
            try clear c94b1
            try clear c96
            try clear c96b0
            try clear c96b1
            try clear hcz71_0
            try clear hcz71_1
            try clear hcz78_0
            try clear hcz78_1
            try clear hcz81_0
            try clear hcz81_1
            try clear hcz86_0
            try clear hcz86_1
            try clear hcz88_0
            try clear hcz88_1
            try clear hfz71_0
            try clear hfz71_1
            try clear hfz78_0
            try clear hfz78_1
            try clear hfz81_0
            try clear hfz81_1
            try clear hfz86_0
            try clear hfz86_1
            try clear hfz88_0
            try clear hfz88_1
            obtain ⟨kq, x57_82, rfl, HA, HJ82, BK184, HB⟩ := hcut
            cases kq with
            | zero => exact absurd HA.out (by simp [wisplaw09_TokenPlaces.j1])
            | succ kj82 =>
              have H := HA.out
              clear HA
              simp only [wisplaw09_TokenPlaces.j1] at H
              by_cases c100 : x57_82 = true
              · subst c100
                have H1 : (none) = some r := by rw [if_pos rfl] at H; exact H
                exact absurd H1 (by simp)
              · replace c100 := Bool.eq_false_iff.mpr c100
                subst c100
                have H1 : (if 0 ≤ t186 then (if t186 ≤ (x0_1.size : Int) then ((token_Scan.f kj82 (x0_1.extract 0 (t186 : Int).toNat)).bind fun bt187 => (if bt187.2.2.2 = 0 then ((token_End.f kj82 (x0_1.extract 0 (t186 : Int).toNat)).bind fun bt194 => (some (bt194.1 == t181 && (bt194.2 == t182)))) else (none))) else (none)) else (none)) = some r := by rw [if_neg (show ¬ (false = true) by decide)] at H; exact H
                clear H
                have H := H1
                clear H1
                by_cases c101 : 0 ≤ t186
                · rw [if_pos c101] at H
                  have c101b0 := eq_true c101
                  have c101b1 : decide (0 ≤ t186) = true := decide_eq_true c101
                  clear c101
                  by_cases c102 : t186 ≤ (x0_1.size : Int)
                  · rw [if_pos c102] at H
                    have c102b0 := eq_true c102
                    have c102b1 : decide (t186 ≤ (x0_1.size : Int)) = true := decide_eq_true c102
                    clear c102
                    replace H := Option.bind_eq_some_iff.mp H
                    obtain ⟨⟨t187, t190, t191, t192⟩, A1030, H⟩ := H
                    replace H : (if t192 = 0 then ((token_End.f kj82 (x0_1.extract 0 (t186 : Int).toNat)).bind fun bt194 => (some (bt194.1 == t181 && (bt194.2 == t182)))) else (none)) = some r := H
                    have A103 := Aside0.mk A1030
                    clear A1030
                    by_cases c104 : t192 = 0
                    · rw [if_pos c104] at H
                      have c104b0 : (t192 == 0) = true := beq_iff_eq.mpr c104
                      have c104b1 : (t192 != 0) = false := bne_eq_false_iff_eq.mpr c104
                      clear c104
                      have c105b0 := eq_true (of_decide_eq_true (by first | (with_reducible assumption) | assumption) : 0 ≤ t186)
                      have c106b0 := eq_true (of_decide_eq_true (by first | (with_reducible assumption) | assumption) : t186 ≤ (x0_1.size : Int))
                      replace H := Option.bind_eq_some_iff.mp H
                      obtain ⟨⟨t194, t195⟩, A1070, H⟩ := H
                      replace H : (some (t194 == t181 && (t195 == t182))) = some r := H
                      have A107 := Aside0.mk A1070
                      clear A1070
                      obtain rfl := Option.some.inj H
                      try go_wp2_with (first | ((with_reducible refine gate_callee (f := 8) rfl ?_); refine goesL_ (some 62) rfl rfl Try.func8 (by kernel_rfl) rfl #[.string (x0_1.extract 0 (t186 : Int).toNat)] rfl (by (try simp only [List.map_toArray, List.map_cons, List.map_nil]); first | done | rfl | (simp only [List.length_drop, List.length_take]; rfl)) ?_; (with_reducible refine (token_Scan.calls kj82 (x0_1.extract 0 (t186 : Int).toNat) t187 t190 t191 t192 _ A103.out).mono ?_); rintro e w108 ⟨v188, rfl, ho0, hb⟩; refine ⟨_, rfl, ?_⟩; have n0_ := Aside0.mk (Kd.R_lower ho0 (below_size (by repeat (first | (with_reducible first | exact HB.out | apply below_alloc | apply pw_below_drewN | apply below_drew1 | refine below_set ?_ GE184.out) | exact HB.out)))); have n1_ := Aside0.mk (blk_below (g := gb184) (o := .cells #[.int .i64 t181, .int .i64 t182] 24 (0, 0)) (by (with_reducible repeat (first | refine blk_drewN ?_ _ | refine blk_drew ?_ | refine blk_alloc ?_ _)); exact BK184.out) hb); have n2_ := Aside0.mk (below_step (by repeat (first | (with_reducible first | exact HB.out | apply below_alloc | apply pw_below_drewN | apply below_drew1 | refine below_set ?_ GE184.out) | exact HB.out)) hb); clear BK184; clear HB; have HO189 := n0_; have BK184 := n1_; have HB := n2_; clear n0_ n1_ n2_; (try clear hb); (try clear hb2); (try clear hk); (try clear hi); (try clear ho0)) | ((with_reducible refine gate_dst (N := 8) rfl ?_); (try (refine gate_guard (by rfl) ?_; dsimp only)); refine box_event ?hg (N := 8) ?hd (cs := #[.int .i64 0, .int .i64 0]) (t := 24) ?hr ?_; (case hd => rfl); (case hg => rfl); (case hr => first | (go_simp; done) | (go_simp; rfl)); intro gb193 hg w109 hbox hb; have n0_ := Aside0.mk (Kd.R_below (by (with_reducible repeat (first | apply Kd.R_alloc | apply Kd.R_drewN | apply Kd.R_drew)); exact HO189.out) hb); have n1_ := Aside0.mk (blk_below (g := gb184) (o := .cells #[.int .i64 t181, .int .i64 t182] 24 (0, 0)) (by (with_reducible repeat (first | refine blk_drewN ?_ _ | refine blk_drew ?_ | refine blk_alloc ?_ _)); exact BK184.out) hb); have n2_ := Aside0.mk (below_step (by repeat (first | (with_reducible first | exact HB.out | apply below_alloc | apply pw_below_drewN | apply below_drew1 | refine below_set ?_ GE184.out) | exact HB.out)) hb); have n3_ := Aside0.mk (hbox); have n4_ := Aside0.mk ((by rw [hg]; exact (below_size (by repeat (first | (with_reducible first | exact HB.out | apply below_alloc | apply pw_below_drewN | apply below_drew1 | refine below_set ?_ GE184.out) | exact HB.out))) : w.heap.size ≤ gb193)); have n5_ := Aside0.mk ((by rw [hg]; exact (below_size (by repeat (first | (with_reducible first | exact HB.out | apply below_alloc | apply pw_below_drewN | apply below_drew1 | refine below_set ?_ GE184.out) | exact HB.out))) : w.heap.size ≤ gb193)); have n6_ := Aside0.mk ((by rw [hg]; exact Nat.ne_of_lt (blk_lt (g := gb184) (o := .cells #[.int .i64 t181, .int .i64 t182] 24 (0, 0)) (by (with_reducible repeat (first | refine blk_drewN ?_ _ | refine blk_drew ?_ | refine blk_alloc ?_ _)); exact BK184.out)) : gb184 ≠ gb193)); have n7_ := Aside0.mk ((by rw [hg]; exact Nat.ne_of_gt (blk_lt (g := gb184) (o := .cells #[.int .i64 t181, .int .i64 t182] 24 (0, 0)) (by (with_reducible repeat (first | refine blk_drewN ?_ _ | refine blk_drew ?_ | refine blk_alloc ?_ _)); exact BK184.out)) : gb193 ≠ gb184)); clear HO189; clear BK184; clear HB; have HO189 := n0_; have BK184 := n1_; have HB := n2_; have BK193 := n3_; have GW193 := n4_; have GE193 := n5_; have NB184_193 := n6_; have NB193_184 := n7_; clear n0_ n1_ n2_ n3_ n4_ n5_ n6_ n7_; clear hb hbox hg; have hnb110 := NB193_184.out; have hnc110 := NB184_193.out; have hcz111_0 : w109.cell? ⟨gb193, 0, none⟩ = some (.int .i64 0) := (blk_cell BK193.out 0).trans rfl; have hcz111_1 : w109.cell? ⟨gb193, 1, none⟩ = some (.int .i64 0) := (blk_cell BK193.out 1).trans rfl; have hfz111_0 := blk_frozen BK193.out 0; have hfz111_1 := blk_frozen BK193.out 1))
                      have n0_ : Aside0 (Kd.R k30 30 ((w109.setCell ⟨gb193, 0, none⟩ (.int .i64 t190)).setCell ⟨gb193, 1, none⟩ (.int .i64 t191)) w.heap.size (fun _ => True) v188 t187) := ⟨by (with_reducible repeat (first | apply Kd.R_alloc | apply Kd.R_drewN | apply Kd.R_drew)); exact Kd.R_mono (Kd.R_far (p := ⟨gb193, 1, none⟩) (Kd.R_far (p := ⟨gb193, 0, none⟩) (Kd.R_types HO189.out BK193.out (by decide)) (fun _ hk => hk.2) (.int .i64 t190)) (fun _ hk => hk.2) (.int .i64 t191)) (fun _ hk => trivial)⟩
                      have n1_ : Aside0 (((w109.setCell ⟨gb193, 0, none⟩ (.int .i64 t190)).setCell ⟨gb193, 1, none⟩ (.int .i64 t191)).heap[gb184]? = some (.cells #[.int .i64 t181, .int .i64 t182] 24 (0, 0))) := ⟨by (with_reducible repeat (first | refine blk_drewN ?_ _ | refine blk_drew ?_ | refine blk_alloc ?_ _)); refine blk_far ?_ NB184_193.out _; (with_reducible repeat (first | refine blk_drewN ?_ _ | refine blk_drew ?_ | refine blk_alloc ?_ _)); refine blk_far ?_ NB184_193.out _; (with_reducible repeat (first | refine blk_drewN ?_ _ | refine blk_drew ?_ | refine blk_alloc ?_ _)); exact BK184.out⟩
                      have n2_ : Aside0 (((w109.setCell ⟨gb193, 0, none⟩ (.int .i64 t190)).setCell ⟨gb193, 1, none⟩ (.int .i64 t191)).heap[gb193]? = some (.cells #[.int .i64 t190, .int .i64 t191] 24 (0, 0))) := ⟨by (with_reducible repeat (first | refine blk_drewN ?_ _ | refine blk_drew ?_ | refine blk_alloc ?_ _)); refine blk_put (cs := #[.int .i64 t190, .int .i64 0]) ?_ 1 _ rfl; (with_reducible repeat (first | refine blk_drewN ?_ _ | refine blk_drew ?_ | refine blk_alloc ?_ _)); refine blk_put (cs := #[.int .i64 0, .int .i64 0]) ?_ 0 _ rfl; (with_reducible repeat (first | refine blk_drewN ?_ _ | refine blk_drew ?_ | refine blk_alloc ?_ _)); exact BK193.out⟩
                      have n3_ : Aside0 (Below w.heap.size w ((w109.setCell ⟨gb193, 0, none⟩ (.int .i64 t190)).setCell ⟨gb193, 1, none⟩ (.int .i64 t191))) := ⟨by repeat (first | (with_reducible first | exact HB.out | apply below_alloc | apply pw_below_drewN | apply below_drew1 | refine below_set ?_ GE184.out | refine below_set ?_ GE193.out) | exact HB.out)⟩
                      (try clear HO189)
                      (try clear BK184)
                      (try clear BK193)
                      (try clear HB)
                      generalize ((w109.setCell ⟨gb193, 0, none⟩ (.int .i64 t190)).setCell ⟨gb193, 1, none⟩ (.int .i64 t191)) = w112 at n0_ n1_ n2_ n3_ ⊢
                      have HO189 := n0_
                      have BK184 := n1_
                      have BK193 := n2_
                      have HB := n3_
                      clear n0_ n1_ n2_ n3_
                      have n0_ := Aside0.mk (Kd.R_drew HO189.out)
                      have n1_ := Aside0.mk (blk_drew BK184.out)
                      have n2_ := Aside0.mk (blk_drew BK193.out)
                      have n3_ := Aside0.mk (below_drew1 HB.out)
                      clear HO189
                      clear BK184
                      clear BK193
                      clear HB
                      have HO189 := n0_
                      have BK184 := n1_
                      have BK193 := n2_
                      have HB := n3_
                      clear n0_ n1_ n2_ n3_
                      refine start_ (n := 11) (S := fun w' => w'.cell? ⟨gb184, 0, none⟩ = some (.int .i64 t181) ∧ w'.cell? ⟨gb184, 1, none⟩ = some (.int .i64 t182)) (ds := []) #[false, false, false, false, false, false, false, false, false, false, false] (by kernel_rfl) rfl rfl ⟨(blk_cell BK184.out 0).trans rfl, (blk_cell BK184.out 1).trans rfl⟩ (fun hHeld => ?_); refine with_tabW wisplaw09_TokenPlaces.tab11 wisplaw09_TokenPlaces.bits11 (fun HT_ HW_ => ?_)
                      generalize w112.drew = w113 at HO189 BK184 BK193 HB hHeld ⊢
                      refine pure_ (i := 0) (N := some 66) (v := ?_) (a' := ?_) #[true, false, false, false, false, false, false, false, false, false, false] rfl rfl (any_of HT_.out (by kernel_rfl)) (fun _ _ _ h => h) (Or.inl ⟨by rfl, ?_⟩) ?_ ?_
                      rotate_left
                      · intro w'
                        go_simp
                        with_reducible rfl
                      rotate_left
                      · simp only [Act.put, List.setIfInBounds_toArray, List.set_cons_zero, List.set_cons_succ, i64_w, i32_w]
                        rfl
                      refine pure_ (i := 1) (N := some 67) (v := ?_) (a' := ?_) #[true, true, false, false, false, false, false, false, false, false, false] rfl rfl (any_of HT_.out (by kernel_rfl)) (fun _ _ _ h => h) (Or.inl ⟨by rfl, ?_⟩) ?_ ?_
                      rotate_left
                      · intro w'
                        go_simp
                        with_reducible rfl
                      rotate_left
                      · simp only [Act.put, List.setIfInBounds_toArray, List.set_cons_zero, List.set_cons_succ, i64_w, i32_w]
                        rfl
                      refine pure_ (i := 2) (N := some 68) (v := ?_) (a' := ?_) #[true, true, true, false, false, false, false, false, false, false, false] rfl rfl (any_of HT_.out (by kernel_rfl)) (fun _ _ _ h => h) (Or.inl ⟨by rfl, ?_⟩) ?_ ?_
                      rotate_left
                      · intro w'
                        go_simp
                        with_reducible rfl
                      rotate_left
                      · simp only [Act.put, List.setIfInBounds_toArray, List.set_cons_zero, List.set_cons_succ, i64_w, i32_w]
                        rfl
                      refine pure_ (i := 3) (N := some 69) (v := ?_) (a' := ?_) #[true, true, true, true, false, false, false, false, false, false, false] rfl rfl (any_of HT_.out (by kernel_rfl)) (fun _ _ _ h => h) (Or.inl ⟨by rfl, ?_⟩) ?_ ?_
                      rotate_left
                      · intro w'
                        go_simp
                        with_reducible rfl
                      rotate_left
                      · simp only [Act.put, List.setIfInBounds_toArray, List.set_cons_zero, List.set_cons_succ, i64_w, i32_w]
                        rfl
                      refine pure_ (i := 4) (N := some 70) (v := ?_) (a' := ?_) #[true, true, true, true, true, false, false, false, false, false, false] rfl rfl (any_of HT_.out (by kernel_rfl)) (fun _ _ _ h => h) (Or.inl ⟨by rfl, ?_⟩) ?_ ?_
                      rotate_left
                      · intro w'
                        go_simp
                        with_reducible rfl
                      rotate_left
                      · simp only [Act.put, List.setIfInBounds_toArray, List.set_cons_zero, List.set_cons_succ, i64_w, i32_w]
                        rfl
                      refine pure_ (i := 5) (N := some 71) (v := ?_) (a' := ?_) #[true, true, true, true, true, true, false, false, false, false, false] rfl rfl (any_of HT_.out (by kernel_rfl)) (fun _ _ _ h => h) (Or.inl ⟨by rfl, ?_⟩) ?_ ?_
                      rotate_left
                      · intro w'
                        go_simp
                        with_reducible rfl
                      rotate_left
                      · simp only [Act.put, List.setIfInBounds_toArray, List.set_cons_zero, List.set_cons_succ, i64_w, i32_w]
                        rfl
                      refine take_ (i := 7) (N := some 73) (v := ?_) (a' := ?_) #[true, true, true, true, true, true, false, true, false, false, false] rfl rfl (take_ofW HT_.out HW_.out (by kernel_rfl)) (fun _ _ _ h => h) (Or.inl ⟨by rfl, ?_⟩) hHeld ?_ ?_
                      rotate_left
                      · rintro w' ⟨s0, s1⟩
                        go_simp
                        with_reducible rfl
                      rotate_left
                      · simp only [Act.put, List.setIfInBounds_toArray, List.set_cons_zero, List.set_cons_succ, i64_w, i32_w]
                        rfl
                      refine one_ (i := 6) (N := some 72) #[true, true, true, true, true, true, true, true, false, false, false] rfl rfl (one_of HT_.out (by kernel_rfl)) (by decide) (fun K hK => ?_)
                      refine goes_ Try.func12 (by kernel_rfl) rfl #[.string (x0_1.extract 0 (t186 : Int).toNat)] (by rfl) rfl rfl (by (try simp only [List.map_toArray, List.map_cons, List.map_nil]); first | done | rfl | (simp only [List.length_drop, List.length_take]; rfl)) ?_
                      with_reducible refine (token_End.calls kj82 (x0_1.extract 0 (t186 : Int).toNat) t194 t195 _ A107.out).mono ?_
                      rintro e w114 ⟨rfl, hb⟩
                      refine ⟨_, rfl, ?_⟩
                      have n0_ := Aside0.mk (Kd.R_below (by (with_reducible repeat (first | apply Kd.R_alloc | apply Kd.R_drewN | apply Kd.R_drew)); exact HO189.out) hb)
                      have n1_ := Aside0.mk (blk_below (g := gb184) (o := .cells #[.int .i64 t181, .int .i64 t182] 24 (0, 0)) (by (with_reducible repeat (first | refine blk_drewN ?_ _ | refine blk_drew ?_ | refine blk_alloc ?_ _)); exact BK184.out) hb)
                      have n2_ := Aside0.mk (blk_below (g := gb193) (o := .cells #[.int .i64 t190, .int .i64 t191] 24 (0, 0)) (by (with_reducible repeat (first | refine blk_drewN ?_ _ | refine blk_drew ?_ | refine blk_alloc ?_ _)); exact BK193.out) hb)
                      have n3_ := Aside0.mk (below_step (by repeat (first | (with_reducible first | exact HB.out | apply below_alloc | apply pw_below_drewN | apply below_drew1 | refine below_set ?_ GE184.out | refine below_set ?_ GE193.out) | exact HB.out)) hb)
                      clear HO189
                      clear BK184
                      clear BK193
                      clear HB
                      have HO189 := n0_
                      have BK184 := n1_
                      have BK193 := n2_
                      have HB := n3_
                      clear n0_ n1_ n2_ n3_
                      (try clear hb)
                      (try clear hb2)
                      (try clear hk)
                      (try clear hi)
                      refine hK.out _ _ ⟨(blk_cell BK184.out 0).trans rfl, (blk_cell BK184.out 1).trans rfl⟩ (fun hHeld => ?_)
                      clear hK K
                      refine norm_ (a' := ?_) ?_ ?_
                      rotate_left
                      · show Act.put _ (some 72) _ = _
                        simp only [Act.put, List.setIfInBounds_toArray, List.set_cons_zero, List.set_cons_succ, i64_w, i32_w]
                        rfl
                      refine pure_ (i := 8) (N := some 74) (v := ?_) (a' := ?_) #[true, true, true, true, true, true, true, true, true, false, false] rfl rfl (any_of HT_.out (by kernel_rfl)) (fun _ _ _ h => h) (Or.inl ⟨by rfl, ?_⟩) ?_ ?_
                      rotate_left
                      · intro w'
                        go_simp
                        with_reducible rfl
                      rotate_left
                      · simp only [Act.put, List.setIfInBounds_toArray, List.set_cons_zero, List.set_cons_succ, i64_w, i32_w]
                        rfl
                      refine pure_ (i := 9) (N := some 75) (v := ?_) (a' := ?_) #[true, true, true, true, true, true, true, true, true, true, false] rfl rfl (any_of HT_.out (by kernel_rfl)) (fun _ _ _ h => h) (Or.inl ⟨by rfl, ?_⟩) ?_ ?_
                      rotate_left
                      · intro w'
                        go_simp
                        with_reducible rfl
                      rotate_left
                      · simp only [Act.put, List.setIfInBounds_toArray, List.set_cons_zero, List.set_cons_succ, i64_w, i32_w]
                        rfl
                      refine pure_ (i := 10) (N := some 2) (v := ?_) (a' := ?_) #[true, true, true, true, true, true, true, true, true, true, true] rfl rfl (any_of HT_.out (by kernel_rfl)) (fun _ _ _ h => h) (Or.inl ⟨by rfl, ?_⟩) ?_ ?_
                      rotate_left
                      · intro w'
                        go_simp
                        with_reducible rfl
                      rotate_left
                      · simp only [Act.put, List.setIfInBounds_toArray, List.set_cons_zero, List.set_cons_succ, i64_w, i32_w]
                        rfl
                      refine done_ (done_of HT_.out (by kernel_rfl)) ?_
                      try go_wp2
                      go_ret
                      exact ⟨by first | rfl | (simp [errW_none, errW_some] <;> rfl) | (simp [*, errW_none, errW_some] <;> rfl), by repeat (first | (with_reducible first | exact HB.out | apply below_alloc | apply pw_below_drewN | apply below_drew1 | refine below_set ?_ GE184.out | refine below_set ?_ GE193.out) | exact HB.out)⟩
                    · rw [if_neg c104] at H
                      exact absurd H (by simp)
                  · rw [if_neg c102] at H
                    exact absurd H (by simp)
                · rw [if_neg c101] at H
                  exact absurd H (by simp)
      · replace c8 := Bool.eq_false_iff.mpr c8
        subst c8
        have H1 : (none) = some r := by rw [if_neg (show ¬ (false = true) by decide)] at H; exact H
        exact absurd H1 (by simp)
/-- THE ONE PURE STATEMENT of wisplaw09_TokenPlaces: yours. -/
def wisplaw09_TokenPlaces.Pure : Prop := ∀ (a0 : ByteArray), a0.size ≤ 140737488351232 → ∃ k, wisplaw09_TokenPlaces.f k a0 = some true
theorem wisplaw09_TokenPlaces.walk (P : wisplaw09_TokenPlaces.Pure) (a0 : ByteArray) (w : World) (w0 : a0.size ≤ 140737488351232) :
    Calls Try.prog 6 #[.string a0] w fun e w' => e = .returned (.bool true) ∧ Below w.heap.size w w' := by
  obtain ⟨k, h⟩ := P a0 w0
  refine (wisplaw09_TokenPlaces.calls k a0 true w h).mono ?_
  rintro e w' ⟨rfl, hd⟩
  exact ⟨rfl, hd⟩
end Go.Proofs.Ytembdahclmffjaa.P
