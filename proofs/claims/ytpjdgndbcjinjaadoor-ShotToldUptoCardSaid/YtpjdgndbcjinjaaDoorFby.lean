/- Printed by a program of this session (it turns the kit's print): see wip/myprint. -/
import Derived.Test.YtpjdgndbcjinjaaDoorPx0
import Derived.Test.YtpjdgndbcjinjaaDoorFfo
import Derived.Test.YtpjdgndbcjinjaaDoorFlo
namespace Go.Proofs.YtpjdgndbcjinjaaDoor.P
open Go.RowKit Go.Proofs.YtpjdgndbcjinjaaDoorW.PrintWords Go.Proofs.YtpjdgndbcjinjaaDoorW.PrintLast Go.Proofs.YtpjdgndbcjinjaaDoorW.PrintMore Go.Proofs.YtpjdgndbcjinjaaDoor.Mine
attribute [local go_sem] max2_int min2_int max_two min_two max_three min_three max_four min_four   -- for this text's walks alone
set_option linter.unusedVariables false
set_option linter.unusedSimpArgs false

/-! ### wispref20_Bytes: function 29 -/
def wispref20_Bytes.l0 : Nat → List Int → Int → Int → Int → Int → Int → Int → List Int → List (S35) → Option (List Int)
  | 0, _, _, _, _, _, _, _, _, _ => none
  | k + 1, x3, x4, x222000, x222001, x222002, x222003, x222004, x222005, x222006 => if x4 < (x222006.length : Int) then (if 0 ≤ x4 then ((wispref20_four.f k ((rd_T35 x222006 x4).f0)).bind fun t266 => (if x3.length + t266.length < 140737488355328 then ((some (x3 ++ t266 : List Int)).bind fun y269 => ((wispref03_Low.f k (IntKind.u64.wrap ((rd_T35 x222006 x4).f1)) 2).bind fun t272 => (if y269.length + t272.length < 140737488355328 then ((some (y269 ++ t272 : List Int)).bind fun y275 => ((some (([(rd_T35 x222006 x4).f2] : List Int) : List Int)).bind fun y278 => (if y275.length + y278.length < 140737488355328 then (wispref20_Bytes.l0 k (y275 ++ y278) (wrap64 (x4 + 1)) x222000 x222001 x222002 x222003 x222004 x222005 x222006) else (none)))) else (none)))) else (none))) else (none)) else (some x3)
def wispref20_Bytes.f (k : Nat) (a0_0 : Int) (a0_1 : Int) (a0_2 : Int) (a0_3 : Int) (a0_4 : Int) (l0_5 : List Int) (l0_6 : List (S35)) : Option (List Int) := (wispref20_four.f k a0_0).bind fun t222 => ((wispref20_four.f k a0_1).bind fun t225 => (if t222.length + t225.length < 140737488355328 then ((some (t222 ++ t225 : List Int)).bind fun y228 => ((wispref20_four.f k a0_2).bind fun t231 => (if y228.length + t231.length < 140737488355328 then ((some (y228 ++ t231 : List Int)).bind fun y234 => ((wispref20_four.f k a0_3).bind fun t237 => (if y234.length + t237.length < 140737488355328 then ((some (y234 ++ t237 : List Int)).bind fun y240 => ((wispref20_four.f k a0_4).bind fun t243 => (if y240.length + t243.length < 140737488355328 then ((some (y240 ++ t243 : List Int)).bind fun y246 => ((wispref20_four.f k (l0_5.length : Int)).bind fun t249 => (if y246.length + t249.length < 140737488355328 then ((some (y246 ++ t249 : List Int)).bind fun y252 => (if y252.length + l0_5.length < 140737488355328 then ((some (y252 ++ l0_5 : List Int)).bind fun y255 => ((wispref20_four.f k (l0_6.length : Int)).bind fun t258 => (if y255.length + t258.length < 140737488355328 then (wispref20_Bytes.l0 k (y255 ++ t258) 0 a0_0 a0_1 a0_2 a0_3 a0_4 l0_5 l0_6) else (none)))) else (none))) else (none)))) else (none)))) else (none)))) else (none)))) else (none)))
theorem wispref20_Bytes.mono_l : ∀ k, (∀ y0 y1 y2 y3 y4 y5 y6 y7 y8, LeO (wispref20_Bytes.l0 k y0 y1 y2 y3 y4 y5 y6 y7 y8) (wispref20_Bytes.l0 (k + 1) y0 y1 y2 y3 y4 y5 y6 y7 y8))
  | 0 => fun _ _ _ _ _ _ _ _ _ r h => by simp [wispref20_Bytes.l0] at h
  | k + 1 => by
    have ih0 := wispref20_Bytes.mono_l k
    · intro y0 y1 y2 y3 y4 y5 y6 y7 y8
      unfold wispref20_Bytes.l0
      repeat' first
      | (with_reducible exact ih0 _ _ _ _ _ _ _ _ _)
      | (with_reducible exact wispref03_Low.mono _ _ _)
      | (with_reducible exact wispref20_four.mono _ _)
      | (with_reducible exact LeO.refl _)
      | (with_reducible exact LeO.none _)
      | (with_reducible refine LeO.ite ?_ ?_)
      | (with_reducible refine LeO.bind ?_ (fun _ => ?_))
      | exact ih0 _ _ _ _ _ _ _ _ _
      | exact wispref03_Low.mono _ _ _
      | exact wispref20_four.mono _ _
      | exact LeO.none _
      | refine LeO.ite ?_ ?_
      | refine LeO.bind ?_ (fun _ => ?_)
theorem wispref20_Bytes.mono : ∀ a0 a1 a2 a3 a4 a5 a6 k, LeO (wispref20_Bytes.f k a0 a1 a2 a3 a4 a5 a6) (wispref20_Bytes.f (k + 1) a0 a1 a2 a3 a4 a5 a6) := by
  intro a0 a1 a2 a3 a4 a5 a6 k
  have ih0 := wispref20_Bytes.mono_l k
  unfold wispref20_Bytes.f
  repeat' first
      | (with_reducible exact ih0 _ _ _ _ _ _ _ _ _)
      | (with_reducible exact wispref03_Low.mono _ _ _)
      | (with_reducible exact wispref20_four.mono _ _)
      | (with_reducible exact LeO.refl _)
      | (with_reducible exact LeO.none _)
      | (with_reducible refine LeO.ite ?_ ?_)
      | (with_reducible refine LeO.bind ?_ (fun _ => ?_))
      | exact ih0 _ _ _ _ _ _ _ _ _
      | exact wispref03_Low.mono _ _ _
      | exact wispref20_four.mono _ _
      | exact LeO.none _
      | refine LeO.ite ?_ ?_
      | refine LeO.bind ?_ (fun _ => ?_)
def wispref20_Bytes.T1 : Bool × List (List Nat × List Nat) := (true, [([], []), ([0], [0]), ([1], [1]), ([], []), ([3], [3]), ([4, 2], [4]), ([2, 5, 5], [2, 5]), ([6, 6, 0, 1, 2, 3, 4, 5, 6], [6])])
def wispref20_Bytes.B1 : List Nat := [0, 1, 3, 0, 8, 31, 63, 127]
theorem wispref20_Bytes.tab1 : rtab .any (opsOf Tryd.f29 1) = wispref20_Bytes.T1 := by kernel_rfl
theorem wispref20_Bytes.bits1 : waitsOk wispref20_Bytes.T1.2 wispref20_Bytes.B1 = true := by kernel_rfl
def wispref20_Bytes.T2 : Bool × List (List Nat × List Nat) := (true, [([], []), ([], []), ([1], [1]), ([2], [2]), ([0, 3, 3], [0, 3]), ([], []), ([5], [5]), ([6, 4], [6]), ([4, 7, 7], [4, 7]), ([], []), ([9], [9]), ([10, 8], [10]), ([8, 11, 11], [8, 11]), ([12, 12, 0, 1, 2, 3, 4, 5, 6, 7, 8, 9, 10, 11, 12], [0, 12])])
def wispref20_Bytes.B2 : List Nat := [0, 0, 2, 6, 15, 0, 32, 127, 255, 0, 512, 2047, 4095, 8191]
theorem wispref20_Bytes.tab2 : rtab .any (opsOf Tryd.f29 2) = wispref20_Bytes.T2 := by kernel_rfl
theorem wispref20_Bytes.bits2 : waitsOk wispref20_Bytes.T2.2 wispref20_Bytes.B2 = true := by kernel_rfl
def wispref20_Bytes.T3 : Bool × List (List Nat × List Nat) := (true, [([], []), ([], []), ([1], [1]), ([2], [2]), ([3], [3]), ([0, 4, 4], [0, 4]), ([], []), ([6], [6]), ([5, 7, 5], [5, 7]), ([8, 8, 0, 1, 2, 3, 4, 5, 6, 7, 8], [0, 8])])
def wispref20_Bytes.B3 : List Nat := [0, 0, 2, 6, 14, 31, 0, 64, 255, 511]
theorem wispref20_Bytes.tab3 : rtab .any (opsOf Tryd.f29 3) = wispref20_Bytes.T3 := by kernel_rfl
theorem wispref20_Bytes.bits3 : waitsOk wispref20_Bytes.T3.2 wispref20_Bytes.B3 = true := by kernel_rfl
def wispref20_Bytes.T9 : Bool × List (List Nat × List Nat) := (true, [([], []), ([], []), ([1], [1]), ([2], [2]), ([0, 3, 3], [0, 3]), ([], []), ([5], [5]), ([6], [6]), ([7, 4], [7]), ([4, 8, 8], [4, 8]), ([], []), ([10], [10]), ([11], [11]), ([9, 12, 9], [9, 12]), ([13, 13, 0, 1, 2, 3, 4, 5, 6, 7, 8, 9, 10, 11, 12, 13], [0, 13])])
def wispref20_Bytes.B9 : List Nat := [0, 0, 2, 6, 15, 0, 32, 96, 255, 511, 0, 1024, 3072, 8191, 16383]
theorem wispref20_Bytes.tab9 : rtab .any (opsOf Tryd.f29 9) = wispref20_Bytes.T9 := by kernel_rfl
theorem wispref20_Bytes.bits9 : waitsOk wispref20_Bytes.T9.2 wispref20_Bytes.B9 = true := by kernel_rfl
set_option maxHeartbeats 8000000 in
set_option maxRecDepth 100000 in
theorem wispref20_Bytes.calls (k : Nat) (a0_0 : Int) (a0_1 : Int) (a0_2 : Int) (a0_3 : Int) (a0_4 : Int) (A0_5 : Option Addr) (c0_5 : Nat) (l0_5 : List Int) (A0_6 : Option Addr) (c0_6 : Nat) (l0_6 : List (S35)) (r : List Int) (w : World) (hr0_5 : Kd.C (Kd.int .u8) w A0_5 l0_5.length l0_5) (hc0_5 : l0_5.length ≤ c0_5) (hr0_6 : Kd.C k35 w A0_6 l0_6.length l0_6) (hc0_6 : l0_6.length ≤ c0_6) (h : wispref20_Bytes.f k a0_0 a0_1 a0_2 a0_3 a0_4 l0_5 l0_6 = some r) :
    Calls Tryd.prog 29 #[.agg #[.int .i64 a0_0, .int .i64 a0_1, .int .i64 a0_2, .int .i64 a0_3, .int .i64 a0_4, .slice A0_5 l0_5.length c0_5, .slice A0_6 l0_6.length c0_6]] w fun e w' => ∃ v0_ : Value, e = .returned (v0_) ∧ Kd.R (Kd.int .u8) 5 w' w.heap.size (fun _ => True) v0_ r ∧ Below w.heap.size w w' := by
  have hu39 := Tryd.underlying39
  have hu35 := Tryd.underlying35
  have HR0_5 := Aside0.mk hr0_5
  have HC0_5 := Aside0.mk hc0_5
  clear hr0_5 hc0_5
  have HR0_6 := Aside0.mk hr0_6
  have HC0_6 := Aside0.mk hc0_6
  clear hr0_6 hc0_6
  have HB := Aside0.mk (Below.refl w.heap.size w)
  have H : ((wispref20_four.f k a0_0).bind fun t222 => ((wispref20_four.f k a0_1).bind fun t225 => (if t222.length + t225.length < 140737488355328 then ((some (t222 ++ t225 : List Int)).bind fun y228 => ((wispref20_four.f k a0_2).bind fun t231 => (if y228.length + t231.length < 140737488355328 then ((some (y228 ++ t231 : List Int)).bind fun y234 => ((wispref20_four.f k a0_3).bind fun t237 => (if y234.length + t237.length < 140737488355328 then ((some (y234 ++ t237 : List Int)).bind fun y240 => ((wispref20_four.f k a0_4).bind fun t243 => (if y240.length + t243.length < 140737488355328 then ((some (y240 ++ t243 : List Int)).bind fun y246 => ((wispref20_four.f k (l0_5.length : Int)).bind fun t249 => (if y246.length + t249.length < 140737488355328 then ((some (y246 ++ t249 : List Int)).bind fun y252 => (if y252.length + l0_5.length < 140737488355328 then ((some (y252 ++ l0_5 : List Int)).bind fun y255 => ((wispref20_four.f k (l0_6.length : Int)).bind fun t258 => (if y255.length + t258.length < 140737488355328 then (wispref20_Bytes.l0 k (y255 ++ t258) 0 a0_0 a0_1 a0_2 a0_3 a0_4 l0_5 l0_6) else (none)))) else (none))) else (none)))) else (none)))) else (none)))) else (none)))) else (none)))) = some r := h
  clear h
  replace H := Option.bind_eq_some_iff.mp H
  obtain ⟨t222, A20, H⟩ := H
  replace H : ((wispref20_four.f k a0_1).bind fun t225 => (if t222.length + t225.length < 140737488355328 then ((some (t222 ++ t225 : List Int)).bind fun y228 => ((wispref20_four.f k a0_2).bind fun t231 => (if y228.length + t231.length < 140737488355328 then ((some (y228 ++ t231 : List Int)).bind fun y234 => ((wispref20_four.f k a0_3).bind fun t237 => (if y234.length + t237.length < 140737488355328 then ((some (y234 ++ t237 : List Int)).bind fun y240 => ((wispref20_four.f k a0_4).bind fun t243 => (if y240.length + t243.length < 140737488355328 then ((some (y240 ++ t243 : List Int)).bind fun y246 => ((wispref20_four.f k (l0_5.length : Int)).bind fun t249 => (if y246.length + t249.length < 140737488355328 then ((some (y246 ++ t249 : List Int)).bind fun y252 => (if y252.length + l0_5.length < 140737488355328 then ((some (y252 ++ l0_5 : List Int)).bind fun y255 => ((wispref20_four.f k (l0_6.length : Int)).bind fun t258 => (if y255.length + t258.length < 140737488355328 then (wispref20_Bytes.l0 k (y255 ++ t258) 0 a0_0 a0_1 a0_2 a0_3 a0_4 l0_5 l0_6) else (none)))) else (none))) else (none)))) else (none)))) else (none)))) else (none)))) else (none))) = some r := H
  have A2 := Aside0.mk A20
  clear A20
  replace H := Option.bind_eq_some_iff.mp H
  obtain ⟨t225, A30, H⟩ := H
  replace H : (if t222.length + t225.length < 140737488355328 then ((some (t222 ++ t225 : List Int)).bind fun y228 => ((wispref20_four.f k a0_2).bind fun t231 => (if y228.length + t231.length < 140737488355328 then ((some (y228 ++ t231 : List Int)).bind fun y234 => ((wispref20_four.f k a0_3).bind fun t237 => (if y234.length + t237.length < 140737488355328 then ((some (y234 ++ t237 : List Int)).bind fun y240 => ((wispref20_four.f k a0_4).bind fun t243 => (if y240.length + t243.length < 140737488355328 then ((some (y240 ++ t243 : List Int)).bind fun y246 => ((wispref20_four.f k (l0_5.length : Int)).bind fun t249 => (if y246.length + t249.length < 140737488355328 then ((some (y246 ++ t249 : List Int)).bind fun y252 => (if y252.length + l0_5.length < 140737488355328 then ((some (y252 ++ l0_5 : List Int)).bind fun y255 => ((wispref20_four.f k (l0_6.length : Int)).bind fun t258 => (if y255.length + t258.length < 140737488355328 then (wispref20_Bytes.l0 k (y255 ++ t258) 0 a0_0 a0_1 a0_2 a0_3 a0_4 l0_5 l0_6) else (none)))) else (none))) else (none)))) else (none)))) else (none)))) else (none)))) else (none)) = some r := H
  have A3 := Aside0.mk A30
  clear A30
  by_cases c4 : t222.length + t225.length < 140737488355328
  · rw [if_pos c4] at H
    have LMc4 := Aside0.mk c4
    clear c4
    obtain ⟨y228, hy228⟩ : ∃ y_ : List Int, y_ = (t222 ++ t225) := ⟨_, rfl⟩
    replace H : ((wispref20_four.f k a0_2).bind fun t231 => (if y228.length + t231.length < 140737488355328 then ((some (y228 ++ t231 : List Int)).bind fun y234 => ((wispref20_four.f k a0_3).bind fun t237 => (if y234.length + t237.length < 140737488355328 then ((some (y234 ++ t237 : List Int)).bind fun y240 => ((wispref20_four.f k a0_4).bind fun t243 => (if y240.length + t243.length < 140737488355328 then ((some (y240 ++ t243 : List Int)).bind fun y246 => ((wispref20_four.f k (l0_5.length : Int)).bind fun t249 => (if y246.length + t249.length < 140737488355328 then ((some (y246 ++ t249 : List Int)).bind fun y252 => (if y252.length + l0_5.length < 140737488355328 then ((some (y252 ++ l0_5 : List Int)).bind fun y255 => ((wispref20_four.f k (l0_6.length : Int)).bind fun t258 => (if y255.length + t258.length < 140737488355328 then (wispref20_Bytes.l0 k (y255 ++ t258) 0 a0_0 a0_1 a0_2 a0_3 a0_4 l0_5 l0_6) else (none)))) else (none))) else (none)))) else (none)))) else (none)))) else (none))) = some r := by first | (rw [hy228]; with_reducible exact H) | (have H2_ := (Option.bind_some _ _).symm.trans H; rw [hy228]; with_reducible exact H2_) | (have H2_ := (Option.bind_some _ _).symm.trans H; with_reducible exact H2_) | with_reducible exact H | (rw [hy228]; exact H) | exact H
    have Ny228 := Aside0.mk hy228
    clear hy228
    replace H := Option.bind_eq_some_iff.mp H
    obtain ⟨t231, A50, H⟩ := H
    replace H : (if y228.length + t231.length < 140737488355328 then ((some (y228 ++ t231 : List Int)).bind fun y234 => ((wispref20_four.f k a0_3).bind fun t237 => (if y234.length + t237.length < 140737488355328 then ((some (y234 ++ t237 : List Int)).bind fun y240 => ((wispref20_four.f k a0_4).bind fun t243 => (if y240.length + t243.length < 140737488355328 then ((some (y240 ++ t243 : List Int)).bind fun y246 => ((wispref20_four.f k (l0_5.length : Int)).bind fun t249 => (if y246.length + t249.length < 140737488355328 then ((some (y246 ++ t249 : List Int)).bind fun y252 => (if y252.length + l0_5.length < 140737488355328 then ((some (y252 ++ l0_5 : List Int)).bind fun y255 => ((wispref20_four.f k (l0_6.length : Int)).bind fun t258 => (if y255.length + t258.length < 140737488355328 then (wispref20_Bytes.l0 k (y255 ++ t258) 0 a0_0 a0_1 a0_2 a0_3 a0_4 l0_5 l0_6) else (none)))) else (none))) else (none)))) else (none)))) else (none)))) else (none)) = some r := H
    have A5 := Aside0.mk A50
    clear A50
    by_cases c6 : y228.length + t231.length < 140737488355328
    · rw [if_pos c6] at H
      have LMc6 := Aside0.mk c6
      clear c6
      obtain ⟨y234, hy234⟩ : ∃ y_ : List Int, y_ = (y228 ++ t231) := ⟨_, rfl⟩
      replace H : ((wispref20_four.f k a0_3).bind fun t237 => (if y234.length + t237.length < 140737488355328 then ((some (y234 ++ t237 : List Int)).bind fun y240 => ((wispref20_four.f k a0_4).bind fun t243 => (if y240.length + t243.length < 140737488355328 then ((some (y240 ++ t243 : List Int)).bind fun y246 => ((wispref20_four.f k (l0_5.length : Int)).bind fun t249 => (if y246.length + t249.length < 140737488355328 then ((some (y246 ++ t249 : List Int)).bind fun y252 => (if y252.length + l0_5.length < 140737488355328 then ((some (y252 ++ l0_5 : List Int)).bind fun y255 => ((wispref20_four.f k (l0_6.length : Int)).bind fun t258 => (if y255.length + t258.length < 140737488355328 then (wispref20_Bytes.l0 k (y255 ++ t258) 0 a0_0 a0_1 a0_2 a0_3 a0_4 l0_5 l0_6) else (none)))) else (none))) else (none)))) else (none)))) else (none))) = some r := by first | (rw [hy234]; with_reducible exact H) | (have H2_ := (Option.bind_some _ _).symm.trans H; rw [hy234]; with_reducible exact H2_) | (have H2_ := (Option.bind_some _ _).symm.trans H; with_reducible exact H2_) | with_reducible exact H | (rw [hy234]; exact H) | exact H
      have Ny234 := Aside0.mk hy234
      clear hy234
      replace H := Option.bind_eq_some_iff.mp H
      obtain ⟨t237, A70, H⟩ := H
      replace H : (if y234.length + t237.length < 140737488355328 then ((some (y234 ++ t237 : List Int)).bind fun y240 => ((wispref20_four.f k a0_4).bind fun t243 => (if y240.length + t243.length < 140737488355328 then ((some (y240 ++ t243 : List Int)).bind fun y246 => ((wispref20_four.f k (l0_5.length : Int)).bind fun t249 => (if y246.length + t249.length < 140737488355328 then ((some (y246 ++ t249 : List Int)).bind fun y252 => (if y252.length + l0_5.length < 140737488355328 then ((some (y252 ++ l0_5 : List Int)).bind fun y255 => ((wispref20_four.f k (l0_6.length : Int)).bind fun t258 => (if y255.length + t258.length < 140737488355328 then (wispref20_Bytes.l0 k (y255 ++ t258) 0 a0_0 a0_1 a0_2 a0_3 a0_4 l0_5 l0_6) else (none)))) else (none))) else (none)))) else (none)))) else (none)) = some r := H
      have A7 := Aside0.mk A70
      clear A70
      by_cases c8 : y234.length + t237.length < 140737488355328
      · rw [if_pos c8] at H
        have LMc8 := Aside0.mk c8
        clear c8
        obtain ⟨y240, hy240⟩ : ∃ y_ : List Int, y_ = (y234 ++ t237) := ⟨_, rfl⟩
        replace H : ((wispref20_four.f k a0_4).bind fun t243 => (if y240.length + t243.length < 140737488355328 then ((some (y240 ++ t243 : List Int)).bind fun y246 => ((wispref20_four.f k (l0_5.length : Int)).bind fun t249 => (if y246.length + t249.length < 140737488355328 then ((some (y246 ++ t249 : List Int)).bind fun y252 => (if y252.length + l0_5.length < 140737488355328 then ((some (y252 ++ l0_5 : List Int)).bind fun y255 => ((wispref20_four.f k (l0_6.length : Int)).bind fun t258 => (if y255.length + t258.length < 140737488355328 then (wispref20_Bytes.l0 k (y255 ++ t258) 0 a0_0 a0_1 a0_2 a0_3 a0_4 l0_5 l0_6) else (none)))) else (none))) else (none)))) else (none))) = some r := by first | (rw [hy240]; with_reducible exact H) | (have H2_ := (Option.bind_some _ _).symm.trans H; rw [hy240]; with_reducible exact H2_) | (have H2_ := (Option.bind_some _ _).symm.trans H; with_reducible exact H2_) | with_reducible exact H | (rw [hy240]; exact H) | exact H
        have Ny240 := Aside0.mk hy240
        clear hy240
        replace H := Option.bind_eq_some_iff.mp H
        obtain ⟨t243, A90, H⟩ := H
        replace H : (if y240.length + t243.length < 140737488355328 then ((some (y240 ++ t243 : List Int)).bind fun y246 => ((wispref20_four.f k (l0_5.length : Int)).bind fun t249 => (if y246.length + t249.length < 140737488355328 then ((some (y246 ++ t249 : List Int)).bind fun y252 => (if y252.length + l0_5.length < 140737488355328 then ((some (y252 ++ l0_5 : List Int)).bind fun y255 => ((wispref20_four.f k (l0_6.length : Int)).bind fun t258 => (if y255.length + t258.length < 140737488355328 then (wispref20_Bytes.l0 k (y255 ++ t258) 0 a0_0 a0_1 a0_2 a0_3 a0_4 l0_5 l0_6) else (none)))) else (none))) else (none)))) else (none)) = some r := H
        have A9 := Aside0.mk A90
        clear A90
        by_cases c10 : y240.length + t243.length < 140737488355328
        · rw [if_pos c10] at H
          have LMc10 := Aside0.mk c10
          clear c10
          obtain ⟨y246, hy246⟩ : ∃ y_ : List Int, y_ = (y240 ++ t243) := ⟨_, rfl⟩
          replace H : ((wispref20_four.f k (l0_5.length : Int)).bind fun t249 => (if y246.length + t249.length < 140737488355328 then ((some (y246 ++ t249 : List Int)).bind fun y252 => (if y252.length + l0_5.length < 140737488355328 then ((some (y252 ++ l0_5 : List Int)).bind fun y255 => ((wispref20_four.f k (l0_6.length : Int)).bind fun t258 => (if y255.length + t258.length < 140737488355328 then (wispref20_Bytes.l0 k (y255 ++ t258) 0 a0_0 a0_1 a0_2 a0_3 a0_4 l0_5 l0_6) else (none)))) else (none))) else (none))) = some r := by first | (rw [hy246]; with_reducible exact H) | (have H2_ := (Option.bind_some _ _).symm.trans H; rw [hy246]; with_reducible exact H2_) | (have H2_ := (Option.bind_some _ _).symm.trans H; with_reducible exact H2_) | with_reducible exact H | (rw [hy246]; exact H) | exact H
          have Ny246 := Aside0.mk hy246
          clear hy246
          replace H := Option.bind_eq_some_iff.mp H
          obtain ⟨t249, A110, H⟩ := H
          replace H : (if y246.length + t249.length < 140737488355328 then ((some (y246 ++ t249 : List Int)).bind fun y252 => (if y252.length + l0_5.length < 140737488355328 then ((some (y252 ++ l0_5 : List Int)).bind fun y255 => ((wispref20_four.f k (l0_6.length : Int)).bind fun t258 => (if y255.length + t258.length < 140737488355328 then (wispref20_Bytes.l0 k (y255 ++ t258) 0 a0_0 a0_1 a0_2 a0_3 a0_4 l0_5 l0_6) else (none)))) else (none))) else (none)) = some r := H
          have A11 := Aside0.mk A110
          clear A110
          by_cases c12 : y246.length + t249.length < 140737488355328
          · rw [if_pos c12] at H
            have LMc12 := Aside0.mk c12
            clear c12
            obtain ⟨y252, hy252⟩ : ∃ y_ : List Int, y_ = (y246 ++ t249) := ⟨_, rfl⟩
            replace H : (if y252.length + l0_5.length < 140737488355328 then ((some (y252 ++ l0_5 : List Int)).bind fun y255 => ((wispref20_four.f k (l0_6.length : Int)).bind fun t258 => (if y255.length + t258.length < 140737488355328 then (wispref20_Bytes.l0 k (y255 ++ t258) 0 a0_0 a0_1 a0_2 a0_3 a0_4 l0_5 l0_6) else (none)))) else (none)) = some r := by first | (rw [hy252]; with_reducible exact H) | (have H2_ := (Option.bind_some _ _).symm.trans H; rw [hy252]; with_reducible exact H2_) | (have H2_ := (Option.bind_some _ _).symm.trans H; with_reducible exact H2_) | with_reducible exact H | (rw [hy252]; exact H) | exact H
            have Ny252 := Aside0.mk hy252
            clear hy252
            by_cases c13 : y252.length + l0_5.length < 140737488355328
            · rw [if_pos c13] at H
              have LMc13 := Aside0.mk c13
              clear c13
              obtain ⟨y255, hy255⟩ : ∃ y_ : List Int, y_ = (y252 ++ l0_5) := ⟨_, rfl⟩
              replace H : ((wispref20_four.f k (l0_6.length : Int)).bind fun t258 => (if y255.length + t258.length < 140737488355328 then (wispref20_Bytes.l0 k (y255 ++ t258) 0 a0_0 a0_1 a0_2 a0_3 a0_4 l0_5 l0_6) else (none))) = some r := by first | (rw [hy255]; with_reducible exact H) | (have H2_ := (Option.bind_some _ _).symm.trans H; rw [hy255]; with_reducible exact H2_) | (have H2_ := (Option.bind_some _ _).symm.trans H; with_reducible exact H2_) | with_reducible exact H | (rw [hy255]; exact H) | exact H
              have Ny255 := Aside0.mk hy255
              clear hy255
              replace H := Option.bind_eq_some_iff.mp H
              obtain ⟨t258, A140, H⟩ := H
              replace H : (if y255.length + t258.length < 140737488355328 then (wispref20_Bytes.l0 k (y255 ++ t258) 0 a0_0 a0_1 a0_2 a0_3 a0_4 l0_5 l0_6) else (none)) = some r := H
              have A14 := Aside0.mk A140
              clear A140
              by_cases c15 : y255.length + t258.length < 140737488355328
              · rw [if_pos c15] at H
                have LMc15 := Aside0.mk c15
                clear c15
                obtain ⟨y261, hy261⟩ : ∃ y_ : List Int, y_ = (y255 ++ t258) := ⟨_, rfl⟩
                replace H : (wispref20_Bytes.l0 k y261 0 a0_0 a0_1 a0_2 a0_3 a0_4 l0_5 l0_6) = some r := by first | (rw [hy261]; with_reducible exact H) | (have H2_ := (Option.bind_some _ _).symm.trans H; rw [hy261]; with_reducible exact H2_) | (have H2_ := (Option.bind_some _ _).symm.trans H; with_reducible exact H2_) | with_reducible exact H | (rw [hy261]; exact H) | exact H
                have Ny261 := Aside0.mk hy261
                clear hy261
                have H' := Aside0.mk H
                clear H
                go_enter Tryd.func29, Tryd.ntmps29
                try go_wp2_with (first | ((with_reducible refine gate_dst (N := 1) rfl ?_); refine box_event ?hg (N := 1) ?hd (cs := #[.int .i64 a0_0, .int .i64 a0_1, .int .i64 a0_2, .int .i64 a0_3, .int .i64 a0_4, .slice A0_5 l0_5.length c0_5, .slice A0_6 l0_6.length c0_6]) (t := 39) ?hr ?_; (case hd => rfl); (case hg => rfl); (case hr => first | (go_simp; done) | (go_simp; rfl)); intro gb221 hg w16 hbox hb; have n0_ := Aside0.mk (below_step (by repeat (first | (with_reducible first | exact HB.out | apply below_alloc | apply pw_below_drewN | apply below_drew1) | exact HB.out)) hb); have n1_ := Aside0.mk (hbox); have n2_ := Aside0.mk ((by rw [hg]; exact (below_size (by repeat (first | (with_reducible first | exact HB.out | apply below_alloc | apply pw_below_drewN | apply below_drew1) | exact HB.out))) : w.heap.size ≤ gb221)); have n3_ := Aside0.mk ((by rw [hg]; exact (below_size (by repeat (first | (with_reducible first | exact HB.out | apply below_alloc | apply pw_below_drewN | apply below_drew1) | exact HB.out))) : w.heap.size ≤ gb221)); clear HB; have HB := n0_; have BK221 := n1_; have GW221 := n2_; have GE221 := n3_; clear n0_ n1_ n2_ n3_; clear hb hbox hg))
                have n0_ := Aside0.mk (blk_drew BK221.out)
                have n1_ := Aside0.mk (below_drew1 HB.out)
                clear BK221
                clear HB
                have BK221 := n0_
                have HB := n1_
                clear n0_ n1_
                refine start_ (n := 8) (S := fun w' => w'.cell? ⟨gb221, 0, none⟩ = some (.int .i64 a0_0) ∧ w'.cell? ⟨gb221, 1, none⟩ = some (.int .i64 a0_1) ∧ w'.cell? ⟨gb221, 2, none⟩ = some (.int .i64 a0_2) ∧ w'.cell? ⟨gb221, 3, none⟩ = some (.int .i64 a0_3) ∧ w'.cell? ⟨gb221, 4, none⟩ = some (.int .i64 a0_4) ∧ w'.cell? ⟨gb221, 5, none⟩ = some (.slice A0_5 l0_5.length c0_5) ∧ w'.cell? ⟨gb221, 6, none⟩ = some (.slice A0_6 l0_6.length c0_6)) (ds := []) #[false, false, false, false, false, false, false, false] (by kernel_rfl) rfl rfl ⟨(blk_cell BK221.out 0).trans rfl, (blk_cell BK221.out 1).trans rfl, (blk_cell BK221.out 2).trans rfl, (blk_cell BK221.out 3).trans rfl, (blk_cell BK221.out 4).trans rfl, (blk_cell BK221.out 5).trans rfl, (blk_cell BK221.out 6).trans rfl⟩ (fun hHeld => ?_); refine with_tabW wispref20_Bytes.tab1 wispref20_Bytes.bits1 (fun HT_ HW_ => ?_)
                generalize w16.drew = w17 at BK221 HB hHeld ⊢
                refine pure_ (i := 0) (N := some 6) (v := ?_) (a' := ?_) #[true, false, false, false, false, false, false, false] rfl rfl (any_of HT_.out (by kernel_rfl)) (fun _ _ _ h => h) (Or.inl ⟨by rfl, ?_⟩) ?_ ?_
                rotate_left
                · intro w'
                  go_simp
                  with_reducible rfl
                rotate_left
                · simp only [Act.put, List.setIfInBounds_toArray, List.set_cons_zero, List.set_cons_succ, i64_w, i32_w]
                  rfl
                refine pure_ (i := 3) (N := some 9) (v := ?_) (a' := ?_) #[true, false, false, true, false, false, false, false] rfl rfl (any_of HT_.out (by kernel_rfl)) (fun _ _ _ h => h) (Or.inl ⟨by rfl, ?_⟩) ?_ ?_
                rotate_left
                · intro w'
                  go_simp
                  with_reducible rfl
                rotate_left
                · simp only [Act.put, List.setIfInBounds_toArray, List.set_cons_zero, List.set_cons_succ, i64_w, i32_w]
                  rfl
                refine take_ (i := 1) (N := some 7) (v := ?_) (a' := ?_) #[true, true, false, true, false, false, false, false] rfl rfl (take_ofW HT_.out HW_.out (by kernel_rfl)) (fun _ _ _ h => h) (Or.inl ⟨by rfl, ?_⟩) hHeld ?_ ?_
                rotate_left
                · rintro w' ⟨s0, s1, s2, s3, s4, s5, s6⟩
                  go_simp
                  with_reducible rfl
                rotate_left
                · simp only [Act.put, List.setIfInBounds_toArray, List.set_cons_zero, List.set_cons_succ, i64_w, i32_w]
                  rfl
                refine take_ (i := 4) (N := some 10) (v := ?_) (a' := ?_) #[true, true, false, true, true, false, false, false] rfl rfl (take_ofW HT_.out HW_.out (by kernel_rfl)) (fun _ _ _ h => h) (Or.inl ⟨by rfl, ?_⟩) hHeld ?_ ?_
                rotate_left
                · rintro w' ⟨s0, s1, s2, s3, s4, s5, s6⟩
                  go_simp
                  with_reducible rfl
                rotate_left
                · simp only [Act.put, List.setIfInBounds_toArray, List.set_cons_zero, List.set_cons_succ, i64_w, i32_w]
                  rfl
                refine one_ (i := 2) (N := some 8) #[true, true, true, true, true, false, false, false] rfl rfl (one_of HT_.out (by kernel_rfl)) (by decide) (fun K hK => ?_)
                refine goes_ Tryd.func38 (by kernel_rfl) rfl #[.int .i64 a0_0] (by rfl) rfl rfl (by (try simp only [List.map_toArray, List.map_cons, List.map_nil]); first | done | rfl | (simp only [List.length_drop, List.length_take]; rfl)) ?_
                with_reducible refine (wispref20_four.calls k a0_0 t222 _ A2.out).mono ?_
                rintro e w18 ⟨v223, rfl, ho0, hb⟩
                refine ⟨_, rfl, ?_⟩
                have n0_ := Aside0.mk (Kd.R_lower ho0 (below_size (by repeat (first | (with_reducible first | exact HB.out | apply below_alloc | apply pw_below_drewN | apply below_drew1 | refine below_set ?_ GE221.out) | exact HB.out))))
                have n1_ := Aside0.mk (blk_below (g := gb221) (o := .cells #[.int .i64 a0_0, .int .i64 a0_1, .int .i64 a0_2, .int .i64 a0_3, .int .i64 a0_4, .slice A0_5 l0_5.length c0_5, .slice A0_6 l0_6.length c0_6] 39 (0, 0)) (by (with_reducible repeat (first | refine blk_drewN ?_ _ | refine blk_drew ?_ | refine blk_alloc ?_ _)); exact BK221.out) hb)
                have n2_ := Aside0.mk (below_step (by repeat (first | (with_reducible first | exact HB.out | apply below_alloc | apply pw_below_drewN | apply below_drew1 | refine below_set ?_ GE221.out) | exact HB.out)) hb)
                clear BK221
                clear HB
                have HO224 := n0_
                have BK221 := n1_
                have HB := n2_
                clear n0_ n1_ n2_
                (try clear hb)
                (try clear hb2)
                (try clear hk)
                (try clear hi)
                (try clear ho0)
                refine hK.out _ _ ⟨(blk_cell BK221.out 0).trans rfl, (blk_cell BK221.out 1).trans rfl, (blk_cell BK221.out 2).trans rfl, (blk_cell BK221.out 3).trans rfl, (blk_cell BK221.out 4).trans rfl, (blk_cell BK221.out 5).trans rfl, (blk_cell BK221.out 6).trans rfl⟩ (fun hHeld => ?_)
                clear hK K
                refine norm_ (a' := ?_) ?_ ?_
                rotate_left
                · show Act.put _ (some 8) _ = _
                  simp only [Act.put, List.setIfInBounds_toArray, List.set_cons_zero, List.set_cons_succ, i64_w, i32_w]
                  rfl
                refine one_ (i := 5) (N := some 11) #[true, true, true, true, true, true, false, false] rfl rfl (one_of HT_.out (by kernel_rfl)) (by decide) (fun K hK => ?_)
                refine goes_ Tryd.func38 (by kernel_rfl) rfl #[.int .i64 a0_1] (by rfl) rfl rfl (by (try simp only [List.map_toArray, List.map_cons, List.map_nil]); first | done | rfl | (simp only [List.length_drop, List.length_take]; rfl)) ?_
                with_reducible refine (wispref20_four.calls k a0_1 t225 _ A3.out).mono ?_
                rintro e w19 ⟨v226, rfl, ho0, hb⟩
                refine ⟨_, rfl, ?_⟩
                have n0_ := Aside0.mk (Kd.R_elder' (by (with_reducible repeat (first | apply Kd.R_alloc | apply Kd.R_drewN | apply Kd.R_drew)); exact HO224.out) (Kd.R_base ho0) hb)
                have n1_ := Aside0.mk (Kd.R_lower (Kd.R_new' ho0 (Kd.R_lt (by (with_reducible repeat (first | apply Kd.R_alloc | apply Kd.R_drewN | apply Kd.R_drew)); exact HO224.out))) (below_size (by repeat (first | (with_reducible first | exact HB.out | apply below_alloc | apply pw_below_drewN | apply below_drew1 | refine below_set ?_ GE221.out) | exact HB.out))))
                have n2_ := Aside0.mk (blk_below (g := gb221) (o := .cells #[.int .i64 a0_0, .int .i64 a0_1, .int .i64 a0_2, .int .i64 a0_3, .int .i64 a0_4, .slice A0_5 l0_5.length c0_5, .slice A0_6 l0_6.length c0_6] 39 (0, 0)) (by (with_reducible repeat (first | refine blk_drewN ?_ _ | refine blk_drew ?_ | refine blk_alloc ?_ _)); exact BK221.out) hb)
                have n3_ := Aside0.mk (below_step (by repeat (first | (with_reducible first | exact HB.out | apply below_alloc | apply pw_below_drewN | apply below_drew1 | refine below_set ?_ GE221.out) | exact HB.out)) hb)
                clear HO224
                clear BK221
                clear HB
                have HO224 := n0_
                have HO227 := n1_
                have BK221 := n2_
                have HB := n3_
                clear n0_ n1_ n2_ n3_
                (try clear hb)
                (try clear hb2)
                (try clear hk)
                (try clear hi)
                (try clear ho0)
                obtain ⟨Ao21, co21, eo21⟩ := Kd.R_slice HO227.out
                (first | subst eo21 | (injection eo21 with f1_ f2_ f3_; have f4_ := f1_.symm; have f5_ := f3_.symm; clear f1_ f2_ f3_; subst f4_; subst f5_))
                refine hK.out _ _ ⟨(blk_cell BK221.out 0).trans rfl, (blk_cell BK221.out 1).trans rfl, (blk_cell BK221.out 2).trans rfl, (blk_cell BK221.out 3).trans rfl, (blk_cell BK221.out 4).trans rfl, (blk_cell BK221.out 5).trans rfl, (blk_cell BK221.out 6).trans rfl⟩ (fun hHeld => ?_)
                clear hK K
                refine norm_ (a' := ?_) ?_ ?_
                rotate_left
                · show Act.put _ (some 11) _ = _
                  simp only [Act.put, List.setIfInBounds_toArray, List.set_cons_zero, List.set_cons_succ, i64_w, i32_w]
                  rfl
                refine one_ (i := 6) (N := some 12) #[true, true, true, true, true, true, true, false] rfl rfl (one_of HT_.out (by kernel_rfl)) (by decide) (fun K hK => ?_)
                refine Kd.R_append_rows_step (Kd.int .u8) (w0 := w) w.heap.size (by rfl) (.tmp 8) (.tmp 11) 24 5 (.int .u8 0) 1 rfl Tryd.underlying24 info5 rfl (by decide) (by omega) v223 t222 t225 _ _ _ (fun k_ => some k_ ≠ (.slice Ao21 t225.length co21 : Value).ownBlock) (fun _ => False) rfl rfl ?aO ?aR (fun _ _ h => h) (fun _ h => h.elim) ?aF ?aB ?aS ?aL ?_
                (case aR => repeat (first | exact (Kd.R_reads' HO227.out).2.2 | (with_reducible refine Kd.C_alloc ?_ _) | (with_reducible refine Kd.C_drewN ?_ _) | (with_reducible refine Kd.C_drew ?_)))
                (case aB => exact (by repeat (first | (with_reducible first | exact HB.out | apply below_alloc | apply pw_below_drewN | apply below_drew1 | refine below_set ?_ GE221.out) | exact HB.out)))
                (case aF => exact (fun k_ hk => Kd.fresh' (Kd.R_lt (by (with_reducible repeat (first | apply Kd.R_alloc | apply Kd.R_drewN | apply Kd.R_drew)); exact HO227.out)) k_ hk))
                (case aO => exact (by (with_reducible repeat (first | apply Kd.R_alloc | apply Kd.R_drewN | apply Kd.R_drew)); exact Kd.R_mono HO224.out (fun _ hk => hk.2)))
                (case aS => exact (below_size (by repeat (first | (with_reducible first | exact HB.out | apply below_alloc | apply pw_below_drewN | apply below_drew1 | refine below_set ?_ GE221.out) | exact HB.out))))
                (case aL => have := LMc4.out; omega)
                intro v229 w20 ho hb hg hat
                rw [← Ny228.out] at ho
                have n0_ := Aside0.mk (blk_grown (g := gb221) (o := .cells #[.int .i64 a0_0, .int .i64 a0_1, .int .i64 a0_2, .int .i64 a0_3, .int .i64 a0_4, .slice A0_5 l0_5.length c0_5, .slice A0_6 l0_6.length c0_6] 39 (0, 0)) (by (with_reducible repeat (first | refine blk_drewN ?_ _ | refine blk_drew ?_ | refine blk_alloc ?_ _)); exact BK221.out) hg (Kd.R_ne HO224.out BK221.out (by decide)))
                have n1_ := Aside0.mk (Kd.R_after (ok := (fun _ => True)) (by (with_reducible repeat (first | apply Kd.R_alloc | apply Kd.R_drewN | apply Kd.R_drew)); exact HO227.out) hg hat)
                have n2_ := Aside0.mk (hb)
                have n3_ := Aside0.mk (ho)
                clear BK221
                clear HO227
                clear HB
                clear HO224
                have BK221 := n0_
                have HO227 := n1_
                have HB := n2_
                have HO230 := n3_
                clear n0_ n1_ n2_ n3_
                clear ho hb hg hat
                refine hK.out _ _ ⟨(blk_cell BK221.out 0).trans rfl, (blk_cell BK221.out 1).trans rfl, (blk_cell BK221.out 2).trans rfl, (blk_cell BK221.out 3).trans rfl, (blk_cell BK221.out 4).trans rfl, (blk_cell BK221.out 5).trans rfl, (blk_cell BK221.out 6).trans rfl⟩ (fun hHeld => ?_)
                clear hK K
                refine norm_ (a' := ?_) ?_ ?_
                rotate_left
                · show Act.put _ (some 12) _ = _
                  simp only [Act.put, List.setIfInBounds_toArray, List.set_cons_zero, List.set_cons_succ, i64_w, i32_w]
                  rfl
                refine pure_ (i := 7) (N := some 3) (v := ?_) (a' := ?_) #[true, true, true, true, true, true, true, true] rfl rfl (any_of HT_.out (by kernel_rfl)) (fun _ _ _ h => h) (Or.inl ⟨by rfl, ?_⟩) ?_ ?_
                rotate_left
                · intro w'
                  go_simp
                  with_reducible rfl
                rotate_left
                · simp only [Act.put, List.setIfInBounds_toArray, List.set_cons_zero, List.set_cons_succ, i64_w, i32_w]
                  rfl
                refine done_ (done_of HT_.out (by kernel_rfl)) ?_
                try go_wp2
                have n0_ := Aside0.mk (Kd.R_drew HO227.out)
                have n1_ := Aside0.mk (Kd.R_drew HO230.out)
                have n2_ := Aside0.mk (blk_drew BK221.out)
                have n3_ := Aside0.mk (below_drew1 HB.out)
                clear HO227
                clear HO230
                clear BK221
                clear HB
                have HO227 := n0_
                have HO230 := n1_
                have BK221 := n2_
                have HB := n3_
                clear n0_ n1_ n2_ n3_
                refine start_ (n := 14) (S := fun w' => w'.cell? ⟨gb221, 0, none⟩ = some (.int .i64 a0_0) ∧ w'.cell? ⟨gb221, 1, none⟩ = some (.int .i64 a0_1) ∧ w'.cell? ⟨gb221, 2, none⟩ = some (.int .i64 a0_2) ∧ w'.cell? ⟨gb221, 3, none⟩ = some (.int .i64 a0_3) ∧ w'.cell? ⟨gb221, 4, none⟩ = some (.int .i64 a0_4) ∧ w'.cell? ⟨gb221, 5, none⟩ = some (.slice A0_5 l0_5.length c0_5) ∧ w'.cell? ⟨gb221, 6, none⟩ = some (.slice A0_6 l0_6.length c0_6)) (ds := []) #[false, false, false, false, false, false, false, false, false, false, false, false, false, false] (by kernel_rfl) rfl rfl ⟨(blk_cell BK221.out 0).trans rfl, (blk_cell BK221.out 1).trans rfl, (blk_cell BK221.out 2).trans rfl, (blk_cell BK221.out 3).trans rfl, (blk_cell BK221.out 4).trans rfl, (blk_cell BK221.out 5).trans rfl, (blk_cell BK221.out 6).trans rfl⟩ (fun hHeld => ?_); refine with_tabW wispref20_Bytes.tab2 wispref20_Bytes.bits2 (fun HT_ HW_ => ?_)
                generalize w20.drew = w22 at HO227 HO230 BK221 HB hHeld ⊢
                refine pure_ (i := 0) (N := some 13) (v := ?_) (a' := ?_) #[true, false, false, false, false, false, false, false, false, false, false, false, false, false] rfl rfl (any_of HT_.out (by kernel_rfl)) (fun _ _ _ h => h) (Or.inl ⟨by rfl, ?_⟩) ?_ ?_
                rotate_left
                · intro w'
                  go_simp
                  with_reducible rfl
                rotate_left
                · simp only [Act.put, List.setIfInBounds_toArray, List.set_cons_zero, List.set_cons_succ, i64_w, i32_w]
                  rfl
                refine pure_ (i := 1) (N := some 14) (v := ?_) (a' := ?_) #[true, true, false, false, false, false, false, false, false, false, false, false, false, false] rfl rfl (any_of HT_.out (by kernel_rfl)) (fun _ _ _ h => h) (Or.inl ⟨by rfl, ?_⟩) ?_ ?_
                rotate_left
                · intro w'
                  go_simp
                  with_reducible rfl
                rotate_left
                · simp only [Act.put, List.setIfInBounds_toArray, List.set_cons_zero, List.set_cons_succ, i64_w, i32_w]
                  rfl
                refine pure_ (i := 5) (N := some 18) (v := ?_) (a' := ?_) #[true, true, false, false, false, true, false, false, false, false, false, false, false, false] rfl rfl (any_of HT_.out (by kernel_rfl)) (fun _ _ _ h => h) (Or.inl ⟨by rfl, ?_⟩) ?_ ?_
                rotate_left
                · intro w'
                  go_simp
                  with_reducible rfl
                rotate_left
                · simp only [Act.put, List.setIfInBounds_toArray, List.set_cons_zero, List.set_cons_succ, i64_w, i32_w]
                  rfl
                refine pure_ (i := 9) (N := some 22) (v := ?_) (a' := ?_) #[true, true, false, false, false, true, false, false, false, true, false, false, false, false] rfl rfl (any_of HT_.out (by kernel_rfl)) (fun _ _ _ h => h) (Or.inl ⟨by rfl, ?_⟩) ?_ ?_
                rotate_left
                · intro w'
                  go_simp
                  with_reducible rfl
                rotate_left
                · simp only [Act.put, List.setIfInBounds_toArray, List.set_cons_zero, List.set_cons_succ, i64_w, i32_w]
                  rfl
                refine take_ (i := 2) (N := some 15) (v := ?_) (a' := ?_) #[true, true, true, false, false, true, false, false, false, true, false, false, false, false] rfl rfl (take_ofW HT_.out HW_.out (by kernel_rfl)) (fun _ _ _ h => h) (Or.inl ⟨by rfl, ?_⟩) hHeld ?_ ?_
                rotate_left
                · rintro w' ⟨s0, s1, s2, s3, s4, s5, s6⟩
                  go_simp
                  with_reducible rfl
                rotate_left
                · simp only [Act.put, List.setIfInBounds_toArray, List.set_cons_zero, List.set_cons_succ, i64_w, i32_w]
                  rfl
                refine take_ (i := 6) (N := some 19) (v := ?_) (a' := ?_) #[true, true, true, false, false, true, true, false, false, true, false, false, false, false] rfl rfl (take_ofW HT_.out HW_.out (by kernel_rfl)) (fun _ _ _ h => h) (Or.inl ⟨by rfl, ?_⟩) hHeld ?_ ?_
                rotate_left
                · rintro w' ⟨s0, s1, s2, s3, s4, s5, s6⟩
                  go_simp
                  with_reducible rfl
                rotate_left
                · simp only [Act.put, List.setIfInBounds_toArray, List.set_cons_zero, List.set_cons_succ, i64_w, i32_w]
                  rfl
                refine take_ (i := 10) (N := some 23) (v := ?_) (a' := ?_) #[true, true, true, false, false, true, true, false, false, true, true, false, false, false] rfl rfl (take_ofW HT_.out HW_.out (by kernel_rfl)) (fun _ _ _ h => h) (Or.inl ⟨by rfl, ?_⟩) hHeld ?_ ?_
                rotate_left
                · rintro w' ⟨s0, s1, s2, s3, s4, s5, s6⟩
                  go_simp
                  with_reducible rfl
                rotate_left
                · simp only [Act.put, List.setIfInBounds_toArray, List.set_cons_zero, List.set_cons_succ, i64_w, i32_w]
                  rfl
                refine one_ (i := 3) (N := some 16) #[true, true, true, true, false, true, true, false, false, true, true, false, false, false] rfl rfl (one_of HT_.out (by kernel_rfl)) (by decide) (fun K hK => ?_)
                refine goes_ Tryd.func38 (by kernel_rfl) rfl #[.int .i64 a0_2] (by rfl) rfl rfl (by (try simp only [List.map_toArray, List.map_cons, List.map_nil]); first | done | rfl | (simp only [List.length_drop, List.length_take]; rfl)) ?_
                with_reducible refine (wispref20_four.calls k a0_2 t231 _ A5.out).mono ?_
                rintro e w23 ⟨v232, rfl, ho0, hb⟩
                refine ⟨_, rfl, ?_⟩
                have n0_ := Aside0.mk (Kd.R_elder' (by (with_reducible repeat (first | apply Kd.R_alloc | apply Kd.R_drewN | apply Kd.R_drew)); exact HO227.out) (Kd.R_base ho0) hb)
                have n1_ := Aside0.mk (Kd.R_elder' (by (with_reducible repeat (first | apply Kd.R_alloc | apply Kd.R_drewN | apply Kd.R_drew)); exact HO230.out) (Kd.R_base ho0) hb)
                have n2_ := Aside0.mk (Kd.R_lower (Kd.R_new' (Kd.R_new' ho0 (Kd.R_lt (by (with_reducible repeat (first | apply Kd.R_alloc | apply Kd.R_drewN | apply Kd.R_drew)); exact HO227.out))) (Kd.R_lt (by (with_reducible repeat (first | apply Kd.R_alloc | apply Kd.R_drewN | apply Kd.R_drew)); exact HO230.out))) (below_size (by repeat (first | (with_reducible first | exact HB.out | apply below_alloc | apply pw_below_drewN | apply below_drew1 | refine below_set ?_ GE221.out) | exact HB.out))))
                have n3_ := Aside0.mk (blk_below (g := gb221) (o := .cells #[.int .i64 a0_0, .int .i64 a0_1, .int .i64 a0_2, .int .i64 a0_3, .int .i64 a0_4, .slice A0_5 l0_5.length c0_5, .slice A0_6 l0_6.length c0_6] 39 (0, 0)) (by (with_reducible repeat (first | refine blk_drewN ?_ _ | refine blk_drew ?_ | refine blk_alloc ?_ _)); exact BK221.out) hb)
                have n4_ := Aside0.mk (below_step (by repeat (first | (with_reducible first | exact HB.out | apply below_alloc | apply pw_below_drewN | apply below_drew1 | refine below_set ?_ GE221.out) | exact HB.out)) hb)
                clear HO227
                clear HO230
                clear BK221
                clear HB
                have HO227 := n0_
                have HO230 := n1_
                have HO233 := n2_
                have BK221 := n3_
                have HB := n4_
                clear n0_ n1_ n2_ n3_ n4_
                (try clear hb)
                (try clear hb2)
                (try clear hk)
                (try clear hi)
                (try clear ho0)
                obtain ⟨Ao25, co25, eo25⟩ := Kd.R_slice HO233.out
                (first | subst eo25 | (injection eo25 with f1_ f2_ f3_; have f4_ := f1_.symm; have f5_ := f3_.symm; clear f1_ f2_ f3_; subst f4_; subst f5_))
                refine hK.out _ _ ⟨(blk_cell BK221.out 0).trans rfl, (blk_cell BK221.out 1).trans rfl, (blk_cell BK221.out 2).trans rfl, (blk_cell BK221.out 3).trans rfl, (blk_cell BK221.out 4).trans rfl, (blk_cell BK221.out 5).trans rfl, (blk_cell BK221.out 6).trans rfl⟩ (fun hHeld => ?_)
                clear hK K
                refine norm_ (a' := ?_) ?_ ?_
                rotate_left
                · show Act.put _ (some 16) _ = _
                  simp only [Act.put, List.setIfInBounds_toArray, List.set_cons_zero, List.set_cons_succ, i64_w, i32_w]
                  rfl
                refine one_ (i := 4) (N := some 17) #[true, true, true, true, true, true, true, false, false, true, true, false, false, false] rfl rfl (one_of HT_.out (by kernel_rfl)) (by decide) (fun K hK => ?_)
                refine Kd.R_append_rows_step (Kd.int .u8) (w0 := w) w.heap.size (by rfl) (.tmp 13) (.tmp 16) 24 5 (.int .u8 0) 1 rfl Tryd.underlying24 info5 rfl (by decide) (by omega) v229 y228 t231 _ _ _ (fun k_ => some k_ ≠ (.slice Ao21 t225.length co21 : Value).ownBlock ∧ some k_ ≠ (.slice Ao25 t231.length co25 : Value).ownBlock) (fun _ => False) rfl rfl ?aO ?aR (fun _ _ h => h) (fun _ h => h.elim) ?aF ?aB ?aS ?aL ?_
                (case aR => repeat (first | exact (Kd.R_reads' HO233.out).2.2 | (with_reducible refine Kd.C_alloc ?_ _) | (with_reducible refine Kd.C_drewN ?_ _) | (with_reducible refine Kd.C_drew ?_)))
                (case aB => exact (by repeat (first | (with_reducible first | exact HB.out | apply below_alloc | apply pw_below_drewN | apply below_drew1 | refine below_set ?_ GE221.out) | exact HB.out)))
                (case aF => exact (fun k_ hk => ⟨Kd.fresh' (Kd.R_lt (by (with_reducible repeat (first | apply Kd.R_alloc | apply Kd.R_drewN | apply Kd.R_drew)); exact HO227.out)) k_ hk, Kd.fresh' (Kd.R_lt (by (with_reducible repeat (first | apply Kd.R_alloc | apply Kd.R_drewN | apply Kd.R_drew)); exact HO233.out)) k_ hk⟩))
                (case aO => exact (by (with_reducible repeat (first | apply Kd.R_alloc | apply Kd.R_drewN | apply Kd.R_drew)); exact HO230.out))
                (case aS => exact (below_size (by repeat (first | (with_reducible first | exact HB.out | apply below_alloc | apply pw_below_drewN | apply below_drew1 | refine below_set ?_ GE221.out) | exact HB.out))))
                (case aL => have := LMc6.out; omega)
                intro v235 w24 ho hb hg hat
                rw [← Ny234.out] at ho
                have n0_ := Aside0.mk (blk_grown (g := gb221) (o := .cells #[.int .i64 a0_0, .int .i64 a0_1, .int .i64 a0_2, .int .i64 a0_3, .int .i64 a0_4, .slice A0_5 l0_5.length c0_5, .slice A0_6 l0_6.length c0_6] 39 (0, 0)) (by (with_reducible repeat (first | refine blk_drewN ?_ _ | refine blk_drew ?_ | refine blk_alloc ?_ _)); exact BK221.out) hg (Kd.R_ne HO230.out BK221.out (by decide)))
                have n1_ := Aside0.mk (Kd.R_after (ok := (fun k_ => some k_ ≠ (.slice Ao25 t231.length co25 : Value).ownBlock)) (by (with_reducible repeat (first | apply Kd.R_alloc | apply Kd.R_drewN | apply Kd.R_drew)); exact Kd.R_mono HO227.out (fun _ hk => ⟨hk.2, hk.1.2⟩)) hg hat)
                have n2_ := Aside0.mk (Kd.R_after (ok := (fun k_ => some k_ ≠ (.slice Ao21 t225.length co21 : Value).ownBlock)) (by (with_reducible repeat (first | apply Kd.R_alloc | apply Kd.R_drewN | apply Kd.R_drew)); exact Kd.R_mono HO233.out (fun _ hk => ⟨hk.1.2, hk.2⟩)) hg hat)
                have n3_ := Aside0.mk (hb)
                have n4_ := Aside0.mk (ho)
                clear BK221
                clear HO227
                clear HO233
                clear HB
                clear HO230
                have BK221 := n0_
                have HO227 := n1_
                have HO233 := n2_
                have HB := n3_
                have HO236 := n4_
                clear n0_ n1_ n2_ n3_ n4_
                clear ho hb hg hat
                refine hK.out _ _ ⟨(blk_cell BK221.out 0).trans rfl, (blk_cell BK221.out 1).trans rfl, (blk_cell BK221.out 2).trans rfl, (blk_cell BK221.out 3).trans rfl, (blk_cell BK221.out 4).trans rfl, (blk_cell BK221.out 5).trans rfl, (blk_cell BK221.out 6).trans rfl⟩ (fun hHeld => ?_)
                clear hK K
                refine norm_ (a' := ?_) ?_ ?_
                rotate_left
                · show Act.put _ (some 17) _ = _
                  simp only [Act.put, List.setIfInBounds_toArray, List.set_cons_zero, List.set_cons_succ, i64_w, i32_w]
                  rfl
                refine one_ (i := 7) (N := some 20) #[true, true, true, true, true, true, true, true, false, true, true, false, false, false] rfl rfl (one_of HT_.out (by kernel_rfl)) (by decide) (fun K hK => ?_)
                refine goes_ Tryd.func38 (by kernel_rfl) rfl #[.int .i64 a0_3] (by rfl) rfl rfl (by (try simp only [List.map_toArray, List.map_cons, List.map_nil]); first | done | rfl | (simp only [List.length_drop, List.length_take]; rfl)) ?_
                with_reducible refine (wispref20_four.calls k a0_3 t237 _ A7.out).mono ?_
                rintro e w26 ⟨v238, rfl, ho0, hb⟩
                refine ⟨_, rfl, ?_⟩
                have n0_ := Aside0.mk (Kd.R_elder' (by (with_reducible repeat (first | apply Kd.R_alloc | apply Kd.R_drewN | apply Kd.R_drew)); exact HO227.out) (Kd.R_base ho0) hb)
                have n1_ := Aside0.mk (Kd.R_elder' (by (with_reducible repeat (first | apply Kd.R_alloc | apply Kd.R_drewN | apply Kd.R_drew)); exact HO233.out) (Kd.R_base ho0) hb)
                have n2_ := Aside0.mk (Kd.R_elder' (by (with_reducible repeat (first | apply Kd.R_alloc | apply Kd.R_drewN | apply Kd.R_drew)); exact HO236.out) (Kd.R_base ho0) hb)
                have n3_ := Aside0.mk (Kd.R_lower (Kd.R_new' (Kd.R_new' (Kd.R_new' ho0 (Kd.R_lt (by (with_reducible repeat (first | apply Kd.R_alloc | apply Kd.R_drewN | apply Kd.R_drew)); exact HO227.out))) (Kd.R_lt (by (with_reducible repeat (first | apply Kd.R_alloc | apply Kd.R_drewN | apply Kd.R_drew)); exact HO233.out))) (Kd.R_lt (by (with_reducible repeat (first | apply Kd.R_alloc | apply Kd.R_drewN | apply Kd.R_drew)); exact HO236.out))) (below_size (by repeat (first | (with_reducible first | exact HB.out | apply below_alloc | apply pw_below_drewN | apply below_drew1 | refine below_set ?_ GE221.out) | exact HB.out))))
                have n4_ := Aside0.mk (blk_below (g := gb221) (o := .cells #[.int .i64 a0_0, .int .i64 a0_1, .int .i64 a0_2, .int .i64 a0_3, .int .i64 a0_4, .slice A0_5 l0_5.length c0_5, .slice A0_6 l0_6.length c0_6] 39 (0, 0)) (by (with_reducible repeat (first | refine blk_drewN ?_ _ | refine blk_drew ?_ | refine blk_alloc ?_ _)); exact BK221.out) hb)
                have n5_ := Aside0.mk (below_step (by repeat (first | (with_reducible first | exact HB.out | apply below_alloc | apply pw_below_drewN | apply below_drew1 | refine below_set ?_ GE221.out) | exact HB.out)) hb)
                clear HO227
                clear HO233
                clear HO236
                clear BK221
                clear HB
                have HO227 := n0_
                have HO233 := n1_
                have HO236 := n2_
                have HO239 := n3_
                have BK221 := n4_
                have HB := n5_
                clear n0_ n1_ n2_ n3_ n4_ n5_
                (try clear hb)
                (try clear hb2)
                (try clear hk)
                (try clear hi)
                (try clear ho0)
                obtain ⟨Ao28, co28, eo28⟩ := Kd.R_slice HO239.out
                (first | subst eo28 | (injection eo28 with f1_ f2_ f3_; have f4_ := f1_.symm; have f5_ := f3_.symm; clear f1_ f2_ f3_; subst f4_; subst f5_))
                refine hK.out _ _ ⟨(blk_cell BK221.out 0).trans rfl, (blk_cell BK221.out 1).trans rfl, (blk_cell BK221.out 2).trans rfl, (blk_cell BK221.out 3).trans rfl, (blk_cell BK221.out 4).trans rfl, (blk_cell BK221.out 5).trans rfl, (blk_cell BK221.out 6).trans rfl⟩ (fun hHeld => ?_)
                clear hK K
                refine norm_ (a' := ?_) ?_ ?_
                rotate_left
                · show Act.put _ (some 20) _ = _
                  simp only [Act.put, List.setIfInBounds_toArray, List.set_cons_zero, List.set_cons_succ, i64_w, i32_w]
                  rfl
                refine one_ (i := 8) (N := some 21) #[true, true, true, true, true, true, true, true, true, true, true, false, false, false] rfl rfl (one_of HT_.out (by kernel_rfl)) (by decide) (fun K hK => ?_)
                refine Kd.R_append_rows_step (Kd.int .u8) (w0 := w) w.heap.size (by rfl) (.tmp 17) (.tmp 20) 24 5 (.int .u8 0) 1 rfl Tryd.underlying24 info5 rfl (by decide) (by omega) v235 y234 t237 _ _ _ (fun k_ => some k_ ≠ (.slice Ao21 t225.length co21 : Value).ownBlock ∧ some k_ ≠ (.slice Ao25 t231.length co25 : Value).ownBlock ∧ some k_ ≠ (.slice Ao28 t237.length co28 : Value).ownBlock) (fun _ => False) rfl rfl ?aO ?aR (fun _ _ h => h) (fun _ h => h.elim) ?aF ?aB ?aS ?aL ?_
                (case aR => repeat (first | exact (Kd.R_reads' HO239.out).2.2 | (with_reducible refine Kd.C_alloc ?_ _) | (with_reducible refine Kd.C_drewN ?_ _) | (with_reducible refine Kd.C_drew ?_)))
                (case aB => exact (by repeat (first | (with_reducible first | exact HB.out | apply below_alloc | apply pw_below_drewN | apply below_drew1 | refine below_set ?_ GE221.out) | exact HB.out)))
                (case aF => exact (fun k_ hk => ⟨Kd.fresh' (Kd.R_lt (by (with_reducible repeat (first | apply Kd.R_alloc | apply Kd.R_drewN | apply Kd.R_drew)); exact HO227.out)) k_ hk, Kd.fresh' (Kd.R_lt (by (with_reducible repeat (first | apply Kd.R_alloc | apply Kd.R_drewN | apply Kd.R_drew)); exact HO233.out)) k_ hk, Kd.fresh' (Kd.R_lt (by (with_reducible repeat (first | apply Kd.R_alloc | apply Kd.R_drewN | apply Kd.R_drew)); exact HO239.out)) k_ hk⟩))
                (case aO => exact (by (with_reducible repeat (first | apply Kd.R_alloc | apply Kd.R_drewN | apply Kd.R_drew)); exact Kd.R_mono HO236.out (fun _ hk => ⟨hk.1.1, ⟨hk.1.2, hk.2⟩⟩)))
                (case aS => exact (below_size (by repeat (first | (with_reducible first | exact HB.out | apply below_alloc | apply pw_below_drewN | apply below_drew1 | refine below_set ?_ GE221.out) | exact HB.out))))
                (case aL => have := LMc8.out; first | omega | (show x4_1.length + 2 ≤ 140737488355328; omega))
                intro v241 w27 ho hb hg hat
                rw [← Ny240.out] at ho
                have n0_ := Aside0.mk (blk_grown (g := gb221) (o := .cells #[.int .i64 a0_0, .int .i64 a0_1, .int .i64 a0_2, .int .i64 a0_3, .int .i64 a0_4, .slice A0_5 l0_5.length c0_5, .slice A0_6 l0_6.length c0_6] 39 (0, 0)) (by (with_reducible repeat (first | refine blk_drewN ?_ _ | refine blk_drew ?_ | refine blk_alloc ?_ _)); exact BK221.out) hg (Kd.R_ne HO236.out BK221.out (by decide)))
                have n1_ := Aside0.mk (Kd.R_after (ok := (fun k_ => some k_ ≠ (.slice Ao25 t231.length co25 : Value).ownBlock ∧ some k_ ≠ (.slice Ao28 t237.length co28 : Value).ownBlock)) (by (with_reducible repeat (first | apply Kd.R_alloc | apply Kd.R_drewN | apply Kd.R_drew)); exact Kd.R_mono HO227.out (fun _ hk => ⟨⟨hk.1.1, hk.2⟩, hk.1.2⟩)) hg hat)
                have n2_ := Aside0.mk (Kd.R_after (ok := (fun k_ => some k_ ≠ (.slice Ao21 t225.length co21 : Value).ownBlock ∧ some k_ ≠ (.slice Ao28 t237.length co28 : Value).ownBlock)) (by (with_reducible repeat (first | apply Kd.R_alloc | apply Kd.R_drewN | apply Kd.R_drew)); exact Kd.R_mono HO233.out (fun _ hk => ⟨⟨hk.1.1, hk.2⟩, hk.1.2⟩)) hg hat)
                have n3_ := Aside0.mk (Kd.R_after (ok := (fun k_ => some k_ ≠ (.slice Ao21 t225.length co21 : Value).ownBlock ∧ some k_ ≠ (.slice Ao25 t231.length co25 : Value).ownBlock)) (by (with_reducible repeat (first | apply Kd.R_alloc | apply Kd.R_drewN | apply Kd.R_drew)); exact Kd.R_mono HO239.out (fun _ hk => ⟨⟨hk.1.1.2, hk.1.2⟩, hk.2⟩)) hg hat)
                have n4_ := Aside0.mk (hb)
                have n5_ := Aside0.mk (ho)
                clear BK221
                clear HO227
                clear HO233
                clear HO239
                clear HB
                clear HO236
                have BK221 := n0_
                have HO227 := n1_
                have HO233 := n2_
                have HO239 := n3_
                have HB := n4_
                have HO242 := n5_
                clear n0_ n1_ n2_ n3_ n4_ n5_
                clear ho hb hg hat
                refine hK.out _ _ ⟨(blk_cell BK221.out 0).trans rfl, (blk_cell BK221.out 1).trans rfl, (blk_cell BK221.out 2).trans rfl, (blk_cell BK221.out 3).trans rfl, (blk_cell BK221.out 4).trans rfl, (blk_cell BK221.out 5).trans rfl, (blk_cell BK221.out 6).trans rfl⟩ (fun hHeld => ?_)
                clear hK K
                refine norm_ (a' := ?_) ?_ ?_
                rotate_left
                · show Act.put _ (some 21) _ = _
                  simp only [Act.put, List.setIfInBounds_toArray, List.set_cons_zero, List.set_cons_succ, i64_w, i32_w]
                  rfl
                refine one_ (i := 11) (N := some 24) #[true, true, true, true, true, true, true, true, true, true, true, true, false, false] rfl rfl (one_of HT_.out (by kernel_rfl)) (by decide) (fun K hK => ?_)
                refine goes_ Tryd.func38 (by kernel_rfl) rfl #[.int .i64 a0_4] (by rfl) rfl rfl (by (try simp only [List.map_toArray, List.map_cons, List.map_nil]); first | done | rfl | (simp only [List.length_drop, List.length_take]; rfl)) ?_
                with_reducible refine (wispref20_four.calls k a0_4 t243 _ A9.out).mono ?_
                rintro e w29 ⟨v244, rfl, ho0, hb⟩
                refine ⟨_, rfl, ?_⟩
                have n0_ := Aside0.mk (Kd.R_elder' (by (with_reducible repeat (first | apply Kd.R_alloc | apply Kd.R_drewN | apply Kd.R_drew)); exact HO227.out) (Kd.R_base ho0) hb)
                have n1_ := Aside0.mk (Kd.R_elder' (by (with_reducible repeat (first | apply Kd.R_alloc | apply Kd.R_drewN | apply Kd.R_drew)); exact HO233.out) (Kd.R_base ho0) hb)
                have n2_ := Aside0.mk (Kd.R_elder' (by (with_reducible repeat (first | apply Kd.R_alloc | apply Kd.R_drewN | apply Kd.R_drew)); exact HO239.out) (Kd.R_base ho0) hb)
                have n3_ := Aside0.mk (Kd.R_elder' (by (with_reducible repeat (first | apply Kd.R_alloc | apply Kd.R_drewN | apply Kd.R_drew)); exact HO242.out) (Kd.R_base ho0) hb)
                have n4_ := Aside0.mk (Kd.R_lower (Kd.R_new' (Kd.R_new' (Kd.R_new' (Kd.R_new' ho0 (Kd.R_lt (by (with_reducible repeat (first | apply Kd.R_alloc | apply Kd.R_drewN | apply Kd.R_drew)); exact HO227.out))) (Kd.R_lt (by (with_reducible repeat (first | apply Kd.R_alloc | apply Kd.R_drewN | apply Kd.R_drew)); exact HO233.out))) (Kd.R_lt (by (with_reducible repeat (first | apply Kd.R_alloc | apply Kd.R_drewN | apply Kd.R_drew)); exact HO239.out))) (Kd.R_lt (by (with_reducible repeat (first | apply Kd.R_alloc | apply Kd.R_drewN | apply Kd.R_drew)); exact HO242.out))) (below_size (by repeat (first | (with_reducible first | exact HB.out | apply below_alloc | apply pw_below_drewN | apply below_drew1 | refine below_set ?_ GE221.out) | exact HB.out))))
                have n5_ := Aside0.mk (blk_below (g := gb221) (o := .cells #[.int .i64 a0_0, .int .i64 a0_1, .int .i64 a0_2, .int .i64 a0_3, .int .i64 a0_4, .slice A0_5 l0_5.length c0_5, .slice A0_6 l0_6.length c0_6] 39 (0, 0)) (by (with_reducible repeat (first | refine blk_drewN ?_ _ | refine blk_drew ?_ | refine blk_alloc ?_ _)); exact BK221.out) hb)
                have n6_ := Aside0.mk (below_step (by repeat (first | (with_reducible first | exact HB.out | apply below_alloc | apply pw_below_drewN | apply below_drew1 | refine below_set ?_ GE221.out) | exact HB.out)) hb)
                clear HO227
                clear HO233
                clear HO239
                clear HO242
                clear BK221
                clear HB
                have HO227 := n0_
                have HO233 := n1_
                have HO239 := n2_
                have HO242 := n3_
                have HO245 := n4_
                have BK221 := n5_
                have HB := n6_
                clear n0_ n1_ n2_ n3_ n4_ n5_ n6_
                (try clear hb)
                (try clear hb2)
                (try clear hk)
                (try clear hi)
                (try clear ho0)
                obtain ⟨Ao31, co31, eo31⟩ := Kd.R_slice HO245.out
                (first | subst eo31 | (injection eo31 with f1_ f2_ f3_; have f4_ := f1_.symm; have f5_ := f3_.symm; clear f1_ f2_ f3_; subst f4_; subst f5_))
                refine hK.out _ _ ⟨(blk_cell BK221.out 0).trans rfl, (blk_cell BK221.out 1).trans rfl, (blk_cell BK221.out 2).trans rfl, (blk_cell BK221.out 3).trans rfl, (blk_cell BK221.out 4).trans rfl, (blk_cell BK221.out 5).trans rfl, (blk_cell BK221.out 6).trans rfl⟩ (fun hHeld => ?_)
                clear hK K
                refine norm_ (a' := ?_) ?_ ?_
                rotate_left
                · show Act.put _ (some 24) _ = _
                  simp only [Act.put, List.setIfInBounds_toArray, List.set_cons_zero, List.set_cons_succ, i64_w, i32_w]
                  rfl
                refine one_ (i := 12) (N := some 25) #[true, true, true, true, true, true, true, true, true, true, true, true, true, false] rfl rfl (one_of HT_.out (by kernel_rfl)) (by decide) (fun K hK => ?_)
                refine Kd.R_append_rows_step (Kd.int .u8) (w0 := w) w.heap.size (by rfl) (.tmp 21) (.tmp 24) 24 5 (.int .u8 0) 1 rfl Tryd.underlying24 info5 rfl (by decide) (by omega) v241 y240 t243 _ _ _ (fun k_ => some k_ ≠ (.slice Ao21 t225.length co21 : Value).ownBlock ∧ some k_ ≠ (.slice Ao25 t231.length co25 : Value).ownBlock ∧ some k_ ≠ (.slice Ao28 t237.length co28 : Value).ownBlock ∧ some k_ ≠ (.slice Ao31 t243.length co31 : Value).ownBlock) (fun _ => False) rfl rfl ?aO ?aR (fun _ _ h => h) (fun _ h => h.elim) ?aF ?aB ?aS ?aL ?_
                (case aR => repeat (first | exact (Kd.R_reads' HO245.out).2.2 | (with_reducible refine Kd.C_alloc ?_ _) | (with_reducible refine Kd.C_drewN ?_ _) | (with_reducible refine Kd.C_drew ?_)))
                (case aB => exact (by repeat (first | (with_reducible first | exact HB.out | apply below_alloc | apply pw_below_drewN | apply below_drew1 | refine below_set ?_ GE221.out) | exact HB.out)))
                (case aF => exact (fun k_ hk => ⟨Kd.fresh' (Kd.R_lt (by (with_reducible repeat (first | apply Kd.R_alloc | apply Kd.R_drewN | apply Kd.R_drew)); exact HO227.out)) k_ hk, Kd.fresh' (Kd.R_lt (by (with_reducible repeat (first | apply Kd.R_alloc | apply Kd.R_drewN | apply Kd.R_drew)); exact HO233.out)) k_ hk, Kd.fresh' (Kd.R_lt (by (with_reducible repeat (first | apply Kd.R_alloc | apply Kd.R_drewN | apply Kd.R_drew)); exact HO239.out)) k_ hk, Kd.fresh' (Kd.R_lt (by (with_reducible repeat (first | apply Kd.R_alloc | apply Kd.R_drewN | apply Kd.R_drew)); exact HO245.out)) k_ hk⟩))
                (case aO => exact (by (with_reducible repeat (first | apply Kd.R_alloc | apply Kd.R_drewN | apply Kd.R_drew)); exact Kd.R_mono HO242.out (fun _ hk => ⟨hk.1.1, ⟨hk.1.2.1, ⟨hk.1.2.2, hk.2⟩⟩⟩)))
                (case aS => exact (below_size (by repeat (first | (with_reducible first | exact HB.out | apply below_alloc | apply pw_below_drewN | apply below_drew1 | refine below_set ?_ GE221.out) | exact HB.out))))
                (case aL => have := LMc10.out; omega)
                intro v247 w30 ho hb hg hat
                rw [← Ny246.out] at ho
                have n0_ := Aside0.mk (blk_grown (g := gb221) (o := .cells #[.int .i64 a0_0, .int .i64 a0_1, .int .i64 a0_2, .int .i64 a0_3, .int .i64 a0_4, .slice A0_5 l0_5.length c0_5, .slice A0_6 l0_6.length c0_6] 39 (0, 0)) (by (with_reducible repeat (first | refine blk_drewN ?_ _ | refine blk_drew ?_ | refine blk_alloc ?_ _)); exact BK221.out) hg (Kd.R_ne HO242.out BK221.out (by decide)))
                have n1_ := Aside0.mk (Kd.R_after (ok := (fun k_ => some k_ ≠ (.slice Ao25 t231.length co25 : Value).ownBlock ∧ some k_ ≠ (.slice Ao28 t237.length co28 : Value).ownBlock ∧ some k_ ≠ (.slice Ao31 t243.length co31 : Value).ownBlock)) (by (with_reducible repeat (first | apply Kd.R_alloc | apply Kd.R_drewN | apply Kd.R_drew)); exact Kd.R_mono HO227.out (fun _ hk => ⟨⟨hk.1.1.1, ⟨hk.1.1.2, hk.2⟩⟩, hk.1.2⟩)) hg hat)
                have n2_ := Aside0.mk (Kd.R_after (ok := (fun k_ => some k_ ≠ (.slice Ao21 t225.length co21 : Value).ownBlock ∧ some k_ ≠ (.slice Ao28 t237.length co28 : Value).ownBlock ∧ some k_ ≠ (.slice Ao31 t243.length co31 : Value).ownBlock)) (by (with_reducible repeat (first | apply Kd.R_alloc | apply Kd.R_drewN | apply Kd.R_drew)); exact Kd.R_mono HO233.out (fun _ hk => ⟨⟨hk.1.1.1, ⟨hk.1.1.2, hk.2⟩⟩, hk.1.2⟩)) hg hat)
                have n3_ := Aside0.mk (Kd.R_after (ok := (fun k_ => some k_ ≠ (.slice Ao21 t225.length co21 : Value).ownBlock ∧ some k_ ≠ (.slice Ao25 t231.length co25 : Value).ownBlock ∧ some k_ ≠ (.slice Ao31 t243.length co31 : Value).ownBlock)) (by (with_reducible repeat (first | apply Kd.R_alloc | apply Kd.R_drewN | apply Kd.R_drew)); exact Kd.R_mono HO239.out (fun _ hk => ⟨⟨hk.1.1.1, ⟨hk.1.1.2, hk.2⟩⟩, hk.1.2⟩)) hg hat)
                have n4_ := Aside0.mk (Kd.R_after (ok := (fun k_ => some k_ ≠ (.slice Ao21 t225.length co21 : Value).ownBlock ∧ some k_ ≠ (.slice Ao25 t231.length co25 : Value).ownBlock ∧ some k_ ≠ (.slice Ao28 t237.length co28 : Value).ownBlock)) (by (with_reducible repeat (first | apply Kd.R_alloc | apply Kd.R_drewN | apply Kd.R_drew)); exact Kd.R_mono HO245.out (fun _ hk => ⟨⟨hk.1.1.1.2, ⟨hk.1.1.2, hk.1.2⟩⟩, hk.2⟩)) hg hat)
                have n5_ := Aside0.mk (hb)
                have n6_ := Aside0.mk (ho)
                clear BK221
                clear HO227
                clear HO233
                clear HO239
                clear HO245
                clear HB
                clear HO242
                have BK221 := n0_
                have HO227 := n1_
                have HO233 := n2_
                have HO239 := n3_
                have HO245 := n4_
                have HB := n5_
                have HO248 := n6_
                clear n0_ n1_ n2_ n3_ n4_ n5_ n6_
                clear ho hb hg hat
                refine hK.out _ _ ⟨(blk_cell BK221.out 0).trans rfl, (blk_cell BK221.out 1).trans rfl, (blk_cell BK221.out 2).trans rfl, (blk_cell BK221.out 3).trans rfl, (blk_cell BK221.out 4).trans rfl, (blk_cell BK221.out 5).trans rfl, (blk_cell BK221.out 6).trans rfl⟩ (fun hHeld => ?_)
                clear hK K
                refine norm_ (a' := ?_) ?_ ?_
                rotate_left
                · show Act.put _ (some 25) _ = _
                  simp only [Act.put, List.setIfInBounds_toArray, List.set_cons_zero, List.set_cons_succ, i64_w, i32_w]
                  rfl
                refine pure_ (i := 13) (N := some 3) (v := ?_) (a' := ?_) #[true, true, true, true, true, true, true, true, true, true, true, true, true, true] rfl rfl (any_of HT_.out (by kernel_rfl)) (fun _ _ _ h => h) (Or.inl ⟨by rfl, ?_⟩) ?_ ?_
                rotate_left
                · intro w'
                  go_simp
                  with_reducible rfl
                rotate_left
                · simp only [Act.put, List.setIfInBounds_toArray, List.set_cons_zero, List.set_cons_succ, i64_w, i32_w]
                  rfl
                refine done_ (done_of HT_.out (by kernel_rfl)) ?_
                try go_wp2
                have n0_ := Aside0.mk (Kd.R_drew HO227.out)
                have n1_ := Aside0.mk (Kd.R_drew HO233.out)
                have n2_ := Aside0.mk (Kd.R_drew HO239.out)
                have n3_ := Aside0.mk (Kd.R_drew HO245.out)
                have n4_ := Aside0.mk (Kd.R_drew HO248.out)
                have n5_ := Aside0.mk (blk_drew BK221.out)
                have n6_ := Aside0.mk (below_drew1 HB.out)
                clear HO227
                clear HO233
                clear HO239
                clear HO245
                clear HO248
                clear BK221
                clear HB
                have HO227 := n0_
                have HO233 := n1_
                have HO239 := n2_
                have HO245 := n3_
                have HO248 := n4_
                have BK221 := n5_
                have HB := n6_
                clear n0_ n1_ n2_ n3_ n4_ n5_ n6_
                refine start_ (n := 10) (S := fun w' => w'.cell? ⟨gb221, 0, none⟩ = some (.int .i64 a0_0) ∧ w'.cell? ⟨gb221, 1, none⟩ = some (.int .i64 a0_1) ∧ w'.cell? ⟨gb221, 2, none⟩ = some (.int .i64 a0_2) ∧ w'.cell? ⟨gb221, 3, none⟩ = some (.int .i64 a0_3) ∧ w'.cell? ⟨gb221, 4, none⟩ = some (.int .i64 a0_4) ∧ w'.cell? ⟨gb221, 5, none⟩ = some (.slice A0_5 l0_5.length c0_5) ∧ w'.cell? ⟨gb221, 6, none⟩ = some (.slice A0_6 l0_6.length c0_6)) (ds := []) #[false, false, false, false, false, false, false, false, false, false] (by kernel_rfl) rfl rfl ⟨(blk_cell BK221.out 0).trans rfl, (blk_cell BK221.out 1).trans rfl, (blk_cell BK221.out 2).trans rfl, (blk_cell BK221.out 3).trans rfl, (blk_cell BK221.out 4).trans rfl, (blk_cell BK221.out 5).trans rfl, (blk_cell BK221.out 6).trans rfl⟩ (fun hHeld => ?_); refine with_tabW wispref20_Bytes.tab3 wispref20_Bytes.bits3 (fun HT_ HW_ => ?_)
                generalize w30.drew = w32 at HO227 HO233 HO239 HO245 HO248 BK221 HB hHeld ⊢
                refine pure_ (i := 0) (N := some 26) (v := ?_) (a' := ?_) #[true, false, false, false, false, false, false, false, false, false] rfl rfl (any_of HT_.out (by kernel_rfl)) (fun _ _ _ h => h) (Or.inl ⟨by rfl, ?_⟩) ?_ ?_
                rotate_left
                · intro w'
                  go_simp
                  with_reducible rfl
                rotate_left
                · simp only [Act.put, List.setIfInBounds_toArray, List.set_cons_zero, List.set_cons_succ, i64_w, i32_w]
                  rfl
                refine pure_ (i := 1) (N := some 27) (v := ?_) (a' := ?_) #[true, true, false, false, false, false, false, false, false, false] rfl rfl (any_of HT_.out (by kernel_rfl)) (fun _ _ _ h => h) (Or.inl ⟨by rfl, ?_⟩) ?_ ?_
                rotate_left
                · intro w'
                  go_simp
                  with_reducible rfl
                rotate_left
                · simp only [Act.put, List.setIfInBounds_toArray, List.set_cons_zero, List.set_cons_succ, i64_w, i32_w]
                  rfl
                refine pure_ (i := 6) (N := some 32) (v := ?_) (a' := ?_) #[true, true, false, false, false, false, true, false, false, false] rfl rfl (any_of HT_.out (by kernel_rfl)) (fun _ _ _ h => h) (Or.inl ⟨by rfl, ?_⟩) ?_ ?_
                rotate_left
                · intro w'
                  go_simp
                  with_reducible rfl
                rotate_left
                · simp only [Act.put, List.setIfInBounds_toArray, List.set_cons_zero, List.set_cons_succ, i64_w, i32_w]
                  rfl
                refine take_ (i := 2) (N := some 28) (v := ?_) (a' := ?_) #[true, true, true, false, false, false, true, false, false, false] rfl rfl (take_ofW HT_.out HW_.out (by kernel_rfl)) (fun _ _ _ h => h) (Or.inl ⟨by rfl, ?_⟩) hHeld ?_ ?_
                rotate_left
                · rintro w' ⟨s0, s1, s2, s3, s4, s5, s6⟩
                  go_simp
                  with_reducible rfl
                rotate_left
                · simp only [Act.put, List.setIfInBounds_toArray, List.set_cons_zero, List.set_cons_succ, i64_w, i32_w]
                  rfl
                refine pure_ (i := 3) (N := some 29) (v := ?_) (a' := ?_) #[true, true, true, true, false, false, true, false, false, false] rfl rfl (any_of HT_.out (by kernel_rfl)) (fun _ _ _ h => h) (Or.inl ⟨by rfl, ?_⟩) ?_ ?_
                rotate_left
                · intro w'
                  go_simp
                  with_reducible rfl
                rotate_left
                · simp only [Act.put, List.setIfInBounds_toArray, List.set_cons_zero, List.set_cons_succ, i64_w, i32_w]
                  rfl
                refine take_ (i := 7) (N := some 33) (v := ?_) (a' := ?_) #[true, true, true, true, false, false, true, true, false, false] rfl rfl (take_ofW HT_.out HW_.out (by kernel_rfl)) (fun _ _ _ h => h) (Or.inl ⟨by rfl, ?_⟩) hHeld ?_ ?_
                rotate_left
                · rintro w' ⟨s0, s1, s2, s3, s4, s5, s6⟩
                  go_simp
                  with_reducible rfl
                rotate_left
                · simp only [Act.put, List.setIfInBounds_toArray, List.set_cons_zero, List.set_cons_succ, i64_w, i32_w]
                  rfl
                refine one_ (i := 4) (N := some 30) #[true, true, true, true, true, false, true, true, false, false] rfl rfl (one_of HT_.out (by kernel_rfl)) (by decide) (fun K hK => ?_)
                refine goes_ Tryd.func38 (by kernel_rfl) rfl #[.int .i64 (l0_5.length : Int)] (by rfl) rfl rfl (by (try simp only [List.map_toArray, List.map_cons, List.map_nil]); first | done | rfl | (simp only [List.length_drop, List.length_take]; rfl)) ?_
                with_reducible refine (wispref20_four.calls k (l0_5.length : Int) t249 _ A11.out).mono ?_
                rintro e w33 ⟨v250, rfl, ho0, hb⟩
                refine ⟨_, rfl, ?_⟩
                have n0_ := Aside0.mk (Kd.R_elder' (by (with_reducible repeat (first | apply Kd.R_alloc | apply Kd.R_drewN | apply Kd.R_drew)); exact HO227.out) (Kd.R_base ho0) hb)
                have n1_ := Aside0.mk (Kd.R_elder' (by (with_reducible repeat (first | apply Kd.R_alloc | apply Kd.R_drewN | apply Kd.R_drew)); exact HO233.out) (Kd.R_base ho0) hb)
                have n2_ := Aside0.mk (Kd.R_elder' (by (with_reducible repeat (first | apply Kd.R_alloc | apply Kd.R_drewN | apply Kd.R_drew)); exact HO239.out) (Kd.R_base ho0) hb)
                have n3_ := Aside0.mk (Kd.R_elder' (by (with_reducible repeat (first | apply Kd.R_alloc | apply Kd.R_drewN | apply Kd.R_drew)); exact HO245.out) (Kd.R_base ho0) hb)
                have n4_ := Aside0.mk (Kd.R_elder' (by (with_reducible repeat (first | apply Kd.R_alloc | apply Kd.R_drewN | apply Kd.R_drew)); exact HO248.out) (Kd.R_base ho0) hb)
                have n5_ := Aside0.mk (Kd.R_lower (Kd.R_new' (Kd.R_new' (Kd.R_new' (Kd.R_new' (Kd.R_new' ho0 (Kd.R_lt (by (with_reducible repeat (first | apply Kd.R_alloc | apply Kd.R_drewN | apply Kd.R_drew)); exact HO227.out))) (Kd.R_lt (by (with_reducible repeat (first | apply Kd.R_alloc | apply Kd.R_drewN | apply Kd.R_drew)); exact HO233.out))) (Kd.R_lt (by (with_reducible repeat (first | apply Kd.R_alloc | apply Kd.R_drewN | apply Kd.R_drew)); exact HO239.out))) (Kd.R_lt (by (with_reducible repeat (first | apply Kd.R_alloc | apply Kd.R_drewN | apply Kd.R_drew)); exact HO245.out))) (Kd.R_lt (by (with_reducible repeat (first | apply Kd.R_alloc | apply Kd.R_drewN | apply Kd.R_drew)); exact HO248.out))) (below_size (by repeat (first | (with_reducible first | exact HB.out | apply below_alloc | apply pw_below_drewN | apply below_drew1 | refine below_set ?_ GE221.out) | exact HB.out))))
                have n6_ := Aside0.mk (blk_below (g := gb221) (o := .cells #[.int .i64 a0_0, .int .i64 a0_1, .int .i64 a0_2, .int .i64 a0_3, .int .i64 a0_4, .slice A0_5 l0_5.length c0_5, .slice A0_6 l0_6.length c0_6] 39 (0, 0)) (by (with_reducible repeat (first | refine blk_drewN ?_ _ | refine blk_drew ?_ | refine blk_alloc ?_ _)); exact BK221.out) hb)
                have n7_ := Aside0.mk (below_step (by repeat (first | (with_reducible first | exact HB.out | apply below_alloc | apply pw_below_drewN | apply below_drew1 | refine below_set ?_ GE221.out) | exact HB.out)) hb)
                clear HO227
                clear HO233
                clear HO239
                clear HO245
                clear HO248
                clear BK221
                clear HB
                have HO227 := n0_
                have HO233 := n1_
                have HO239 := n2_
                have HO245 := n3_
                have HO248 := n4_
                have HO251 := n5_
                have BK221 := n6_
                have HB := n7_
                clear n0_ n1_ n2_ n3_ n4_ n5_ n6_ n7_
                (try clear hb)
                (try clear hb2)
                (try clear hk)
                (try clear hi)
                (try clear ho0)
                obtain ⟨Ao35, co35, eo35⟩ := Kd.R_slice HO251.out
                (first | subst eo35 | (injection eo35 with f1_ f2_ f3_; have f4_ := f1_.symm; have f5_ := f3_.symm; clear f1_ f2_ f3_; subst f4_; subst f5_))
                refine hK.out _ _ ⟨(blk_cell BK221.out 0).trans rfl, (blk_cell BK221.out 1).trans rfl, (blk_cell BK221.out 2).trans rfl, (blk_cell BK221.out 3).trans rfl, (blk_cell BK221.out 4).trans rfl, (blk_cell BK221.out 5).trans rfl, (blk_cell BK221.out 6).trans rfl⟩ (fun hHeld => ?_)
                clear hK K
                refine norm_ (a' := ?_) ?_ ?_
                rotate_left
                · show Act.put _ (some 30) _ = _
                  simp only [Act.put, List.setIfInBounds_toArray, List.set_cons_zero, List.set_cons_succ, i64_w, i32_w]
                  rfl
                refine one_ (i := 5) (N := some 31) #[true, true, true, true, true, true, true, true, false, false] rfl rfl (one_of HT_.out (by kernel_rfl)) (by decide) (fun K hK => ?_)
                refine Kd.R_append_rows_step (Kd.int .u8) (w0 := w) w.heap.size (by rfl) (.tmp 26) (.tmp 30) 24 5 (.int .u8 0) 1 rfl Tryd.underlying24 info5 rfl (by decide) (by omega) v247 y246 t249 _ _ _ (fun k_ => some k_ ≠ (.slice Ao21 t225.length co21 : Value).ownBlock ∧ some k_ ≠ (.slice Ao25 t231.length co25 : Value).ownBlock ∧ some k_ ≠ (.slice Ao28 t237.length co28 : Value).ownBlock ∧ some k_ ≠ (.slice Ao31 t243.length co31 : Value).ownBlock ∧ some k_ ≠ (.slice Ao35 t249.length co35 : Value).ownBlock) (fun _ => False) rfl rfl ?aO ?aR (fun _ _ h => h) (fun _ h => h.elim) ?aF ?aB ?aS ?aL ?_
                (case aR => repeat (first | exact (Kd.R_reads' HO251.out).2.2 | (with_reducible refine Kd.C_alloc ?_ _) | (with_reducible refine Kd.C_drewN ?_ _) | (with_reducible refine Kd.C_drew ?_)))
                (case aB => exact (by repeat (first | (with_reducible first | exact HB.out | apply below_alloc | apply pw_below_drewN | apply below_drew1 | refine below_set ?_ GE221.out) | exact HB.out)))
                (case aF => exact (fun k_ hk => ⟨Kd.fresh' (Kd.R_lt (by (with_reducible repeat (first | apply Kd.R_alloc | apply Kd.R_drewN | apply Kd.R_drew)); exact HO227.out)) k_ hk, Kd.fresh' (Kd.R_lt (by (with_reducible repeat (first | apply Kd.R_alloc | apply Kd.R_drewN | apply Kd.R_drew)); exact HO233.out)) k_ hk, Kd.fresh' (Kd.R_lt (by (with_reducible repeat (first | apply Kd.R_alloc | apply Kd.R_drewN | apply Kd.R_drew)); exact HO239.out)) k_ hk, Kd.fresh' (Kd.R_lt (by (with_reducible repeat (first | apply Kd.R_alloc | apply Kd.R_drewN | apply Kd.R_drew)); exact HO245.out)) k_ hk, Kd.fresh' (Kd.R_lt (by (with_reducible repeat (first | apply Kd.R_alloc | apply Kd.R_drewN | apply Kd.R_drew)); exact HO251.out)) k_ hk⟩))
                (case aO => exact (by (with_reducible repeat (first | apply Kd.R_alloc | apply Kd.R_drewN | apply Kd.R_drew)); exact Kd.R_mono HO248.out (fun _ hk => ⟨hk.1.1, ⟨hk.1.2.1, ⟨hk.1.2.2.1, ⟨hk.1.2.2.2, hk.2⟩⟩⟩⟩)))
                (case aS => exact (below_size (by repeat (first | (with_reducible first | exact HB.out | apply below_alloc | apply pw_below_drewN | apply below_drew1 | refine below_set ?_ GE221.out) | exact HB.out))))
                (case aL => have := LMc12.out; omega)
                intro v253 w34 ho hb hg hat
                rw [← Ny252.out] at ho
                have n0_ := Aside0.mk (blk_grown (g := gb221) (o := .cells #[.int .i64 a0_0, .int .i64 a0_1, .int .i64 a0_2, .int .i64 a0_3, .int .i64 a0_4, .slice A0_5 l0_5.length c0_5, .slice A0_6 l0_6.length c0_6] 39 (0, 0)) (by (with_reducible repeat (first | refine blk_drewN ?_ _ | refine blk_drew ?_ | refine blk_alloc ?_ _)); exact BK221.out) hg (Kd.R_ne HO248.out BK221.out (by decide)))
                have n1_ := Aside0.mk (Kd.R_after (ok := (fun k_ => some k_ ≠ (.slice Ao25 t231.length co25 : Value).ownBlock ∧ some k_ ≠ (.slice Ao28 t237.length co28 : Value).ownBlock ∧ some k_ ≠ (.slice Ao31 t243.length co31 : Value).ownBlock ∧ some k_ ≠ (.slice Ao35 t249.length co35 : Value).ownBlock)) (by (with_reducible repeat (first | apply Kd.R_alloc | apply Kd.R_drewN | apply Kd.R_drew)); exact Kd.R_mono HO227.out (fun _ hk => ⟨⟨hk.1.1.1, ⟨hk.1.1.2.1, ⟨hk.1.1.2.2, hk.2⟩⟩⟩, hk.1.2⟩)) hg hat)
                have n2_ := Aside0.mk (Kd.R_after (ok := (fun k_ => some k_ ≠ (.slice Ao21 t225.length co21 : Value).ownBlock ∧ some k_ ≠ (.slice Ao28 t237.length co28 : Value).ownBlock ∧ some k_ ≠ (.slice Ao31 t243.length co31 : Value).ownBlock ∧ some k_ ≠ (.slice Ao35 t249.length co35 : Value).ownBlock)) (by (with_reducible repeat (first | apply Kd.R_alloc | apply Kd.R_drewN | apply Kd.R_drew)); exact Kd.R_mono HO233.out (fun _ hk => ⟨⟨hk.1.1.1, ⟨hk.1.1.2.1, ⟨hk.1.1.2.2, hk.2⟩⟩⟩, hk.1.2⟩)) hg hat)
                have n3_ := Aside0.mk (Kd.R_after (ok := (fun k_ => some k_ ≠ (.slice Ao21 t225.length co21 : Value).ownBlock ∧ some k_ ≠ (.slice Ao25 t231.length co25 : Value).ownBlock ∧ some k_ ≠ (.slice Ao31 t243.length co31 : Value).ownBlock ∧ some k_ ≠ (.slice Ao35 t249.length co35 : Value).ownBlock)) (by (with_reducible repeat (first | apply Kd.R_alloc | apply Kd.R_drewN | apply Kd.R_drew)); exact Kd.R_mono HO239.out (fun _ hk => ⟨⟨hk.1.1.1, ⟨hk.1.1.2.1, ⟨hk.1.1.2.2, hk.2⟩⟩⟩, hk.1.2⟩)) hg hat)
                have n4_ := Aside0.mk (Kd.R_after (ok := (fun k_ => some k_ ≠ (.slice Ao21 t225.length co21 : Value).ownBlock ∧ some k_ ≠ (.slice Ao25 t231.length co25 : Value).ownBlock ∧ some k_ ≠ (.slice Ao28 t237.length co28 : Value).ownBlock ∧ some k_ ≠ (.slice Ao35 t249.length co35 : Value).ownBlock)) (by (with_reducible repeat (first | apply Kd.R_alloc | apply Kd.R_drewN | apply Kd.R_drew)); exact Kd.R_mono HO245.out (fun _ hk => ⟨⟨hk.1.1.1, ⟨hk.1.1.2.1, ⟨hk.1.1.2.2, hk.2⟩⟩⟩, hk.1.2⟩)) hg hat)
                have n5_ := Aside0.mk (Kd.R_after (ok := (fun k_ => some k_ ≠ (.slice Ao21 t225.length co21 : Value).ownBlock ∧ some k_ ≠ (.slice Ao25 t231.length co25 : Value).ownBlock ∧ some k_ ≠ (.slice Ao28 t237.length co28 : Value).ownBlock ∧ some k_ ≠ (.slice Ao31 t243.length co31 : Value).ownBlock)) (by (with_reducible repeat (first | apply Kd.R_alloc | apply Kd.R_drewN | apply Kd.R_drew)); exact Kd.R_mono HO251.out (fun _ hk => ⟨⟨hk.1.1.1.1.2, ⟨hk.1.1.1.2, ⟨hk.1.1.2, hk.1.2⟩⟩⟩, hk.2⟩)) hg hat)
                have n6_ := Aside0.mk (hb)
                have n7_ := Aside0.mk (ho)
                clear BK221
                clear HO227
                clear HO233
                clear HO239
                clear HO245
                clear HO251
                clear HB
                clear HO248
                have BK221 := n0_
                have HO227 := n1_
                have HO233 := n2_
                have HO239 := n3_
                have HO245 := n4_
                have HO251 := n5_
                have HB := n6_
                have HO254 := n7_
                clear n0_ n1_ n2_ n3_ n4_ n5_ n6_ n7_
                clear ho hb hg hat
                refine hK.out _ _ ⟨(blk_cell BK221.out 0).trans rfl, (blk_cell BK221.out 1).trans rfl, (blk_cell BK221.out 2).trans rfl, (blk_cell BK221.out 3).trans rfl, (blk_cell BK221.out 4).trans rfl, (blk_cell BK221.out 5).trans rfl, (blk_cell BK221.out 6).trans rfl⟩ (fun hHeld => ?_)
                clear hK K
                refine norm_ (a' := ?_) ?_ ?_
                rotate_left
                · show Act.put _ (some 31) _ = _
                  simp only [Act.put, List.setIfInBounds_toArray, List.set_cons_zero, List.set_cons_succ, i64_w, i32_w]
                  rfl
                refine one_ (i := 8) (N := some 34) #[true, true, true, true, true, true, true, true, true, false] rfl rfl (one_of HT_.out (by kernel_rfl)) (by decide) (fun K hK => ?_)
                refine Kd.R_append_rows_step (Kd.int .u8) (w0 := w) w.heap.size (by rfl) (.tmp 31) (.tmp 33) 24 5 (.int .u8 0) 1 rfl Tryd.underlying24 info5 rfl (by decide) (by omega) v253 y252 l0_5 _ _ _ (fun k_ => some k_ ≠ (.slice Ao21 t225.length co21 : Value).ownBlock ∧ some k_ ≠ (.slice Ao25 t231.length co25 : Value).ownBlock ∧ some k_ ≠ (.slice Ao28 t237.length co28 : Value).ownBlock ∧ some k_ ≠ (.slice Ao31 t243.length co31 : Value).ownBlock ∧ some k_ ≠ (.slice Ao35 t249.length co35 : Value).ownBlock) (fun _ => False) rfl rfl ?aO ?aR (fun _ _ h => h) (fun _ h => h.elim) ?aF ?aB ?aS ?aL ?_
                (case aR => repeat (first | exact (Kd.C_below HR0_5.out HB.out) | (with_reducible refine Kd.C_alloc ?_ _) | (with_reducible refine Kd.C_drewN ?_ _) | (with_reducible refine Kd.C_drew ?_)))
                (case aB => exact (by repeat (first | (with_reducible first | exact HB.out | apply below_alloc | apply pw_below_drewN | apply below_drew1 | refine below_set ?_ GE221.out) | exact HB.out)))
                (case aF => exact (fun k_ hk => ⟨Kd.fresh' (Kd.R_lt (by (with_reducible repeat (first | apply Kd.R_alloc | apply Kd.R_drewN | apply Kd.R_drew)); exact HO227.out)) k_ hk, Kd.fresh' (Kd.R_lt (by (with_reducible repeat (first | apply Kd.R_alloc | apply Kd.R_drewN | apply Kd.R_drew)); exact HO233.out)) k_ hk, Kd.fresh' (Kd.R_lt (by (with_reducible repeat (first | apply Kd.R_alloc | apply Kd.R_drewN | apply Kd.R_drew)); exact HO239.out)) k_ hk, Kd.fresh' (Kd.R_lt (by (with_reducible repeat (first | apply Kd.R_alloc | apply Kd.R_drewN | apply Kd.R_drew)); exact HO245.out)) k_ hk, Kd.fresh' (Kd.R_lt (by (with_reducible repeat (first | apply Kd.R_alloc | apply Kd.R_drewN | apply Kd.R_drew)); exact HO251.out)) k_ hk⟩))
                (case aO => exact (by (with_reducible repeat (first | apply Kd.R_alloc | apply Kd.R_drewN | apply Kd.R_drew)); exact HO254.out))
                (case aS => exact (below_size (by repeat (first | (with_reducible first | exact HB.out | apply below_alloc | apply pw_below_drewN | apply below_drew1 | refine below_set ?_ GE221.out) | exact HB.out))))
                (case aL => have := LMc13.out; omega)
                intro v256 w36 ho hb hg hat
                rw [← Ny255.out] at ho
                have n0_ := Aside0.mk (blk_grown (g := gb221) (o := .cells #[.int .i64 a0_0, .int .i64 a0_1, .int .i64 a0_2, .int .i64 a0_3, .int .i64 a0_4, .slice A0_5 l0_5.length c0_5, .slice A0_6 l0_6.length c0_6] 39 (0, 0)) (by (with_reducible repeat (first | refine blk_drewN ?_ _ | refine blk_drew ?_ | refine blk_alloc ?_ _)); exact BK221.out) hg (Kd.R_ne HO254.out BK221.out (by decide)))
                have n1_ := Aside0.mk (Kd.R_after (ok := (fun k_ => some k_ ≠ (.slice Ao25 t231.length co25 : Value).ownBlock ∧ some k_ ≠ (.slice Ao28 t237.length co28 : Value).ownBlock ∧ some k_ ≠ (.slice Ao31 t243.length co31 : Value).ownBlock ∧ some k_ ≠ (.slice Ao35 t249.length co35 : Value).ownBlock)) (by (with_reducible repeat (first | apply Kd.R_alloc | apply Kd.R_drewN | apply Kd.R_drew)); exact HO227.out) hg hat)
                have n2_ := Aside0.mk (Kd.R_after (ok := (fun k_ => some k_ ≠ (.slice Ao21 t225.length co21 : Value).ownBlock ∧ some k_ ≠ (.slice Ao28 t237.length co28 : Value).ownBlock ∧ some k_ ≠ (.slice Ao31 t243.length co31 : Value).ownBlock ∧ some k_ ≠ (.slice Ao35 t249.length co35 : Value).ownBlock)) (by (with_reducible repeat (first | apply Kd.R_alloc | apply Kd.R_drewN | apply Kd.R_drew)); exact HO233.out) hg hat)
                have n3_ := Aside0.mk (Kd.R_after (ok := (fun k_ => some k_ ≠ (.slice Ao21 t225.length co21 : Value).ownBlock ∧ some k_ ≠ (.slice Ao25 t231.length co25 : Value).ownBlock ∧ some k_ ≠ (.slice Ao31 t243.length co31 : Value).ownBlock ∧ some k_ ≠ (.slice Ao35 t249.length co35 : Value).ownBlock)) (by (with_reducible repeat (first | apply Kd.R_alloc | apply Kd.R_drewN | apply Kd.R_drew)); exact HO239.out) hg hat)
                have n4_ := Aside0.mk (Kd.R_after (ok := (fun k_ => some k_ ≠ (.slice Ao21 t225.length co21 : Value).ownBlock ∧ some k_ ≠ (.slice Ao25 t231.length co25 : Value).ownBlock ∧ some k_ ≠ (.slice Ao28 t237.length co28 : Value).ownBlock ∧ some k_ ≠ (.slice Ao35 t249.length co35 : Value).ownBlock)) (by (with_reducible repeat (first | apply Kd.R_alloc | apply Kd.R_drewN | apply Kd.R_drew)); exact HO245.out) hg hat)
                have n5_ := Aside0.mk (Kd.R_after (ok := (fun k_ => some k_ ≠ (.slice Ao21 t225.length co21 : Value).ownBlock ∧ some k_ ≠ (.slice Ao25 t231.length co25 : Value).ownBlock ∧ some k_ ≠ (.slice Ao28 t237.length co28 : Value).ownBlock ∧ some k_ ≠ (.slice Ao31 t243.length co31 : Value).ownBlock)) (by (with_reducible repeat (first | apply Kd.R_alloc | apply Kd.R_drewN | apply Kd.R_drew)); exact HO251.out) hg hat)
                have n6_ := Aside0.mk (hb)
                have n7_ := Aside0.mk (ho)
                clear BK221
                clear HO227
                clear HO233
                clear HO239
                clear HO245
                clear HO251
                clear HB
                clear HO254
                have BK221 := n0_
                have HO227 := n1_
                have HO233 := n2_
                have HO239 := n3_
                have HO245 := n4_
                have HO251 := n5_
                have HB := n6_
                have HO257 := n7_
                clear n0_ n1_ n2_ n3_ n4_ n5_ n6_ n7_
                clear ho hb hg hat
                refine hK.out _ _ ⟨(blk_cell BK221.out 0).trans rfl, (blk_cell BK221.out 1).trans rfl, (blk_cell BK221.out 2).trans rfl, (blk_cell BK221.out 3).trans rfl, (blk_cell BK221.out 4).trans rfl, (blk_cell BK221.out 5).trans rfl, (blk_cell BK221.out 6).trans rfl⟩ (fun hHeld => ?_)
                clear hK K
                refine norm_ (a' := ?_) ?_ ?_
                rotate_left
                · show Act.put _ (some 34) _ = _
                  simp only [Act.put, List.setIfInBounds_toArray, List.set_cons_zero, List.set_cons_succ, i64_w, i32_w]
                  rfl
                refine pure_ (i := 9) (N := some 3) (v := ?_) (a' := ?_) #[true, true, true, true, true, true, true, true, true, true] rfl rfl (any_of HT_.out (by kernel_rfl)) (fun _ _ _ h => h) (Or.inl ⟨by rfl, ?_⟩) ?_ ?_
                rotate_left
                · intro w'
                  go_simp
                  with_reducible rfl
                rotate_left
                · simp only [Act.put, List.setIfInBounds_toArray, List.set_cons_zero, List.set_cons_succ, i64_w, i32_w]
                  rfl
                refine done_ (done_of HT_.out (by kernel_rfl)) ?_
                have hcz37_0 : w36.cell? ⟨gb221, 0, none⟩ = some (.int .i64 a0_0) := (blk_cell BK221.out 0).trans rfl
                have hcz37_1 : w36.cell? ⟨gb221, 1, none⟩ = some (.int .i64 a0_1) := (blk_cell BK221.out 1).trans rfl
                have hcz37_2 : w36.cell? ⟨gb221, 2, none⟩ = some (.int .i64 a0_2) := (blk_cell BK221.out 2).trans rfl
                have hcz37_3 : w36.cell? ⟨gb221, 3, none⟩ = some (.int .i64 a0_3) := (blk_cell BK221.out 3).trans rfl
                have hcz37_4 : w36.cell? ⟨gb221, 4, none⟩ = some (.int .i64 a0_4) := (blk_cell BK221.out 4).trans rfl
                have hcz37_5 : w36.cell? ⟨gb221, 5, none⟩ = some (.slice A0_5 l0_5.length c0_5) := (blk_cell BK221.out 5).trans rfl
                have hcz37_6 : w36.cell? ⟨gb221, 6, none⟩ = some (.slice A0_6 l0_6.length c0_6) := (blk_cell BK221.out 6).trans rfl
                have hfz37_0 := blk_frozen BK221.out 0
                have hfz37_1 := blk_frozen BK221.out 1
                have hfz37_2 := blk_frozen BK221.out 2
                have hfz37_3 := blk_frozen BK221.out 3
                have hfz37_4 := blk_frozen BK221.out 4
                have hfz37_5 := blk_frozen BK221.out 5
                have hfz37_6 := blk_frozen BK221.out 6
                try go_wp2_with (first | ((with_reducible refine gate_callee (f := 38) rfl ?_); refine goesL_ (some 39) rfl rfl Tryd.func38 (by kernel_rfl) rfl #[.int .i64 (l0_6.length : Int)] rfl (by (try simp only [List.map_toArray, List.map_cons, List.map_nil]); first | done | rfl | (simp only [List.length_drop, List.length_take]; rfl)) ?_; (with_reducible refine (wispref20_four.calls k (l0_6.length : Int) t258 _ A14.out).mono ?_); rintro e w38 ⟨v259, rfl, ho0, hb⟩; refine ⟨_, rfl, ?_⟩; have n0_ := Aside0.mk (Kd.R_elder' (by (with_reducible repeat (first | apply Kd.R_alloc | apply Kd.R_drewN | apply Kd.R_drew)); exact HO227.out) (Kd.R_base ho0) hb); have n1_ := Aside0.mk (Kd.R_elder' (by (with_reducible repeat (first | apply Kd.R_alloc | apply Kd.R_drewN | apply Kd.R_drew)); exact HO233.out) (Kd.R_base ho0) hb); have n2_ := Aside0.mk (Kd.R_elder' (by (with_reducible repeat (first | apply Kd.R_alloc | apply Kd.R_drewN | apply Kd.R_drew)); exact HO239.out) (Kd.R_base ho0) hb); have n3_ := Aside0.mk (Kd.R_elder' (by (with_reducible repeat (first | apply Kd.R_alloc | apply Kd.R_drewN | apply Kd.R_drew)); exact HO245.out) (Kd.R_base ho0) hb); have n4_ := Aside0.mk (Kd.R_elder' (by (with_reducible repeat (first | apply Kd.R_alloc | apply Kd.R_drewN | apply Kd.R_drew)); exact HO251.out) (Kd.R_base ho0) hb); have n5_ := Aside0.mk (Kd.R_elder' (by (with_reducible repeat (first | apply Kd.R_alloc | apply Kd.R_drewN | apply Kd.R_drew)); exact HO257.out) (Kd.R_base ho0) hb); have n6_ := Aside0.mk (Kd.R_lower (Kd.R_new' (Kd.R_new' (Kd.R_new' (Kd.R_new' (Kd.R_new' (Kd.R_new' ho0 (Kd.R_lt (by (with_reducible repeat (first | apply Kd.R_alloc | apply Kd.R_drewN | apply Kd.R_drew)); exact HO227.out))) (Kd.R_lt (by (with_reducible repeat (first | apply Kd.R_alloc | apply Kd.R_drewN | apply Kd.R_drew)); exact HO233.out))) (Kd.R_lt (by (with_reducible repeat (first | apply Kd.R_alloc | apply Kd.R_drewN | apply Kd.R_drew)); exact HO239.out))) (Kd.R_lt (by (with_reducible repeat (first | apply Kd.R_alloc | apply Kd.R_drewN | apply Kd.R_drew)); exact HO245.out))) (Kd.R_lt (by (with_reducible repeat (first | apply Kd.R_alloc | apply Kd.R_drewN | apply Kd.R_drew)); exact HO251.out))) (Kd.R_lt (by (with_reducible repeat (first | apply Kd.R_alloc | apply Kd.R_drewN | apply Kd.R_drew)); exact HO257.out))) (below_size (by repeat (first | (with_reducible first | exact HB.out | apply below_alloc | apply pw_below_drewN | apply below_drew1 | refine below_set ?_ GE221.out) | exact HB.out)))); have n7_ := Aside0.mk (blk_below (g := gb221) (o := .cells #[.int .i64 a0_0, .int .i64 a0_1, .int .i64 a0_2, .int .i64 a0_3, .int .i64 a0_4, .slice A0_5 l0_5.length c0_5, .slice A0_6 l0_6.length c0_6] 39 (0, 0)) (by (with_reducible repeat (first | refine blk_drewN ?_ _ | refine blk_drew ?_ | refine blk_alloc ?_ _)); exact BK221.out) hb); have n8_ := Aside0.mk (below_step (by repeat (first | (with_reducible first | exact HB.out | apply below_alloc | apply pw_below_drewN | apply below_drew1 | refine below_set ?_ GE221.out) | exact HB.out)) hb); clear HO227; clear HO233; clear HO239; clear HO245; clear HO251; clear HO257; clear BK221; clear HB; have HO227 := n0_; have HO233 := n1_; have HO239 := n2_; have HO245 := n3_; have HO251 := n4_; have HO257 := n5_; have HO260 := n6_; have BK221 := n7_; have HB := n8_; clear n0_ n1_ n2_ n3_ n4_ n5_ n6_ n7_ n8_; (try clear hb); (try clear hb2); (try clear hk); (try clear hi); (try clear ho0); obtain ⟨Ao40, co40, eo40⟩ := Kd.R_slice HO260.out; subst eo40) | ((with_reducible refine gate_builtin (b := .append) (xs := #[.tmp 35, .tmp 39]) rfl ?_); at_builtin; refine Kd.R_append_rows (Kd.int .u8) (w0 := w) w.heap.size rfl (.tmp 35) (.tmp 39) 24 5 (.int .u8 0) 1 rfl Tryd.underlying24 info5 rfl (by decide) (by omega) v256 y255 t258 _ _ _ (fun k_ => some k_ ≠ (.slice Ao21 t225.length co21 : Value).ownBlock ∧ some k_ ≠ (.slice Ao25 t231.length co25 : Value).ownBlock ∧ some k_ ≠ (.slice Ao28 t237.length co28 : Value).ownBlock ∧ some k_ ≠ (.slice Ao31 t243.length co31 : Value).ownBlock ∧ some k_ ≠ (.slice Ao35 t249.length co35 : Value).ownBlock ∧ some k_ ≠ (.slice Ao40 t258.length co40 : Value).ownBlock) (fun _ => False) rfl rfl ?aO ?aR (fun _ _ h => h) (fun _ h => h.elim) ?aF ?aB ?aS ?aL ?_; (case aR => repeat (first | exact (Kd.R_reads' HO260.out).2.2 | (with_reducible refine Kd.C_alloc ?_ _) | (with_reducible refine Kd.C_drewN ?_ _) | (with_reducible refine Kd.C_drew ?_))); (case aB => exact (by repeat (first | (with_reducible first | exact HB.out | apply below_alloc | apply pw_below_drewN | apply below_drew1 | refine below_set ?_ GE221.out) | exact HB.out))); (case aF => exact (fun k_ hk => ⟨Kd.fresh' (Kd.R_lt (by (with_reducible repeat (first | apply Kd.R_alloc | apply Kd.R_drewN | apply Kd.R_drew)); exact HO227.out)) k_ hk, Kd.fresh' (Kd.R_lt (by (with_reducible repeat (first | apply Kd.R_alloc | apply Kd.R_drewN | apply Kd.R_drew)); exact HO233.out)) k_ hk, Kd.fresh' (Kd.R_lt (by (with_reducible repeat (first | apply Kd.R_alloc | apply Kd.R_drewN | apply Kd.R_drew)); exact HO239.out)) k_ hk, Kd.fresh' (Kd.R_lt (by (with_reducible repeat (first | apply Kd.R_alloc | apply Kd.R_drewN | apply Kd.R_drew)); exact HO245.out)) k_ hk, Kd.fresh' (Kd.R_lt (by (with_reducible repeat (first | apply Kd.R_alloc | apply Kd.R_drewN | apply Kd.R_drew)); exact HO251.out)) k_ hk, Kd.fresh' (Kd.R_lt (by (with_reducible repeat (first | apply Kd.R_alloc | apply Kd.R_drewN | apply Kd.R_drew)); exact HO260.out)) k_ hk⟩)); (case aO => exact (by (with_reducible repeat (first | apply Kd.R_alloc | apply Kd.R_drewN | apply Kd.R_drew)); exact Kd.R_mono HO257.out (fun _ hk => ⟨hk.1.1, ⟨hk.1.2.1, ⟨hk.1.2.2.1, ⟨hk.1.2.2.2.1, ⟨hk.1.2.2.2.2, hk.2⟩⟩⟩⟩⟩))); (case aS => exact (below_size (by repeat (first | (with_reducible first | exact HB.out | apply below_alloc | apply pw_below_drewN | apply below_drew1 | refine below_set ?_ GE221.out) | exact HB.out)))); (case aL => have := LMc15.out; omega); intro v262 w39 ho hb hg hat; rw [← Ny261.out] at ho; have n0_ := Aside0.mk (blk_grown (g := gb221) (o := .cells #[.int .i64 a0_0, .int .i64 a0_1, .int .i64 a0_2, .int .i64 a0_3, .int .i64 a0_4, .slice A0_5 l0_5.length c0_5, .slice A0_6 l0_6.length c0_6] 39 (0, 0)) (by (with_reducible repeat (first | refine blk_drewN ?_ _ | refine blk_drew ?_ | refine blk_alloc ?_ _)); exact BK221.out) hg (Kd.R_ne HO257.out BK221.out (by decide))); have n1_ := Aside0.mk (Kd.R_after (ok := (fun k_ => some k_ ≠ (.slice Ao25 t231.length co25 : Value).ownBlock ∧ some k_ ≠ (.slice Ao28 t237.length co28 : Value).ownBlock ∧ some k_ ≠ (.slice Ao31 t243.length co31 : Value).ownBlock ∧ some k_ ≠ (.slice Ao35 t249.length co35 : Value).ownBlock ∧ some k_ ≠ (.slice Ao40 t258.length co40 : Value).ownBlock)) (by (with_reducible repeat (first | apply Kd.R_alloc | apply Kd.R_drewN | apply Kd.R_drew)); exact Kd.R_mono HO227.out (fun _ hk => ⟨⟨hk.1.1.1, ⟨hk.1.1.2.1, ⟨hk.1.1.2.2.1, ⟨hk.1.1.2.2.2, hk.2⟩⟩⟩⟩, hk.1.2⟩)) hg hat); have n2_ := Aside0.mk (Kd.R_after (ok := (fun k_ => some k_ ≠ (.slice Ao21 t225.length co21 : Value).ownBlock ∧ some k_ ≠ (.slice Ao28 t237.length co28 : Value).ownBlock ∧ some k_ ≠ (.slice Ao31 t243.length co31 : Value).ownBlock ∧ some k_ ≠ (.slice Ao35 t249.length co35 : Value).ownBlock ∧ some k_ ≠ (.slice Ao40 t258.length co40 : Value).ownBlock)) (by (with_reducible repeat (first | apply Kd.R_alloc | apply Kd.R_drewN | apply Kd.R_drew)); exact Kd.R_mono HO233.out (fun _ hk => ⟨⟨hk.1.1.1, ⟨hk.1.1.2.1, ⟨hk.1.1.2.2.1, ⟨hk.1.1.2.2.2, hk.2⟩⟩⟩⟩, hk.1.2⟩)) hg hat); have n3_ := Aside0.mk (Kd.R_after (ok := (fun k_ => some k_ ≠ (.slice Ao21 t225.length co21 : Value).ownBlock ∧ some k_ ≠ (.slice Ao25 t231.length co25 : Value).ownBlock ∧ some k_ ≠ (.slice Ao31 t243.length co31 : Value).ownBlock ∧ some k_ ≠ (.slice Ao35 t249.length co35 : Value).ownBlock ∧ some k_ ≠ (.slice Ao40 t258.length co40 : Value).ownBlock)) (by (with_reducible repeat (first | apply Kd.R_alloc | apply Kd.R_drewN | apply Kd.R_drew)); exact Kd.R_mono HO239.out (fun _ hk => ⟨⟨hk.1.1.1, ⟨hk.1.1.2.1, ⟨hk.1.1.2.2.1, ⟨hk.1.1.2.2.2, hk.2⟩⟩⟩⟩, hk.1.2⟩)) hg hat); have n4_ := Aside0.mk (Kd.R_after (ok := (fun k_ => some k_ ≠ (.slice Ao21 t225.length co21 : Value).ownBlock ∧ some k_ ≠ (.slice Ao25 t231.length co25 : Value).ownBlock ∧ some k_ ≠ (.slice Ao28 t237.length co28 : Value).ownBlock ∧ some k_ ≠ (.slice Ao35 t249.length co35 : Value).ownBlock ∧ some k_ ≠ (.slice Ao40 t258.length co40 : Value).ownBlock)) (by (with_reducible repeat (first | apply Kd.R_alloc | apply Kd.R_drewN | apply Kd.R_drew)); exact Kd.R_mono HO245.out (fun _ hk => ⟨⟨hk.1.1.1, ⟨hk.1.1.2.1, ⟨hk.1.1.2.2.1, ⟨hk.1.1.2.2.2, hk.2⟩⟩⟩⟩, hk.1.2⟩)) hg hat); have n5_ := Aside0.mk (Kd.R_after (ok := (fun k_ => some k_ ≠ (.slice Ao21 t225.length co21 : Value).ownBlock ∧ some k_ ≠ (.slice Ao25 t231.length co25 : Value).ownBlock ∧ some k_ ≠ (.slice Ao28 t237.length co28 : Value).ownBlock ∧ some k_ ≠ (.slice Ao31 t243.length co31 : Value).ownBlock ∧ some k_ ≠ (.slice Ao40 t258.length co40 : Value).ownBlock)) (by (with_reducible repeat (first | apply Kd.R_alloc | apply Kd.R_drewN | apply Kd.R_drew)); exact Kd.R_mono HO251.out (fun _ hk => ⟨⟨hk.1.1.1, ⟨hk.1.1.2.1, ⟨hk.1.1.2.2.1, ⟨hk.1.1.2.2.2, hk.2⟩⟩⟩⟩, hk.1.2⟩)) hg hat); have n6_ := Aside0.mk (Kd.R_after (ok := (fun k_ => some k_ ≠ (.slice Ao21 t225.length co21 : Value).ownBlock ∧ some k_ ≠ (.slice Ao25 t231.length co25 : Value).ownBlock ∧ some k_ ≠ (.slice Ao28 t237.length co28 : Value).ownBlock ∧ some k_ ≠ (.slice Ao31 t243.length co31 : Value).ownBlock ∧ some k_ ≠ (.slice Ao35 t249.length co35 : Value).ownBlock)) (by (with_reducible repeat (first | apply Kd.R_alloc | apply Kd.R_drewN | apply Kd.R_drew)); exact Kd.R_mono HO260.out (fun _ hk => ⟨⟨hk.1.1.1.1.1.2, ⟨hk.1.1.1.1.2, ⟨hk.1.1.1.2, ⟨hk.1.1.2, hk.1.2⟩⟩⟩⟩, hk.2⟩)) hg hat); have n7_ := Aside0.mk (hb); have n8_ := Aside0.mk (ho); clear BK221; clear HO227; clear HO233; clear HO239; clear HO245; clear HO251; clear HO260; clear HB; clear HO257; have BK221 := n0_; have HO227 := n1_; have HO233 := n2_; have HO239 := n3_; have HO245 := n4_; have HO251 := n5_; have HO260 := n6_; have HB := n7_; have HO263 := n8_; clear n0_ n1_ n2_ n3_ n4_ n5_ n6_ n7_ n8_; clear ho hb hg hat))
                go_loopg [3, 4] k (fun kq v3 v4 w' => ∃ (x3_1 : List Int) (x4_1 : Int), v4 = .int .i64 x4_1 ∧ Aside0 (wispref20_Bytes.l0 kq x3_1 x4_1 a0_0 a0_1 a0_2 a0_3 a0_4 l0_5 l0_6 = some r) ∧ Aside0 (kq ≤ k) ∧ Aside0 (Kd.R (Kd.int .u8) 5 w' w.heap.size (fun _ => True) v3 x3_1) ∧ Aside0 (w'.heap[gb221]? = some (.cells #[.int .i64 a0_0, .int .i64 a0_1, .int .i64 a0_2, .int .i64 a0_3, .int .i64 a0_4, (.slice A0_5 l0_5.length c0_5), (.slice A0_6 l0_6.length c0_6)] 39 (0, 0))) ∧ Aside0 (Below w.heap.size w w'))
                case atStart => exact ⟨(y261), (0), (by first | rfl | (simp; done) | (simp [*]; done) | (simp [isEmpty_ne]; done)), H', ⟨Nat.le_refl _⟩, ⟨by (with_reducible repeat (first | apply Kd.R_alloc | apply Kd.R_drewN | apply Kd.R_drew)); exact Kd.R_mono HO263.out (fun _ hk => trivial)⟩, ⟨by (with_reducible repeat (first | refine blk_drewN ?_ _ | refine blk_drew ?_ | refine blk_alloc ?_ _)); exact BK221.out⟩, ⟨by repeat (first | (with_reducible first | exact HB.out | apply below_alloc | apply pw_below_drewN | apply below_drew1 | refine below_set ?_ GE221.out) | exact HB.out)⟩⟩
                case round =>
                  clear H'
                  try clear c1
                  try clear p2
                  try clear c3
                  try clear c4
                  try clear c6
                  try clear c8
                  try clear c10
                  try clear c12
                  try clear c13
                  try clear c15
                  try clear c38
                  try clear hcz37_0
                  try clear hcz37_1
                  try clear hcz37_2
                  try clear hcz37_3
                  try clear hcz37_4
                  try clear hcz37_5
                  try clear hcz37_6
                  try clear hfz37_0
                  try clear hfz37_1
                  try clear hfz37_2
                  try clear hfz37_3
                  try clear hfz37_4
                  try clear hfz37_5
                  try clear hfz37_6
                  obtain ⟨x3_1, x4_1, rfl, HA, HK1, HO_3, BK221, HB⟩ := hrel
                  cases gk with
                  | zero => exact absurd HA.out (by simp [wispref20_Bytes.l0])
                  | succ k1 =>
                    have H := HA.out
                    clear HA
                    simp only [wispref20_Bytes.l0] at H
                    by_cases c41 : x4_1 < (l0_6.length : Int)
                    · rw [if_pos c41] at H
                      have c41b0 : decide (x4_1 < (l0_6.length : Int)) = true := decide_eq_true c41
                      clear c41
                      by_cases c42 : 0 ≤ x4_1
                      · rw [if_pos c42] at H
                        have c42b0 : decide (0 ≤ x4_1) = true := decide_eq_true c42
                        clear c42
                        replace H := Option.bind_eq_some_iff.mp H
                        obtain ⟨t266, A430, H⟩ := H
                        replace H : (if x3_1.length + t266.length < 140737488355328 then ((some (x3_1 ++ t266 : List Int)).bind fun y269 => ((wispref03_Low.f k1 (IntKind.u64.wrap ((rd_T35 l0_6 x4_1).f1)) 2).bind fun t272 => (if y269.length + t272.length < 140737488355328 then ((some (y269 ++ t272 : List Int)).bind fun y275 => ((some (([(rd_T35 l0_6 x4_1).f2] : List Int) : List Int)).bind fun y278 => (if y275.length + y278.length < 140737488355328 then (wispref20_Bytes.l0 k1 (y275 ++ y278) (wrap64 (x4_1 + 1)) a0_0 a0_1 a0_2 a0_3 a0_4 l0_5 l0_6) else (none)))) else (none)))) else (none)) = some r := H
                        have A43 := Aside0.mk A430
                        clear A430
                        by_cases c44 : x3_1.length + t266.length < 140737488355328
                        · rw [if_pos c44] at H
                          have LMc44 := Aside0.mk c44
                          clear c44
                          obtain ⟨y269, hy269⟩ : ∃ y_ : List Int, y_ = (x3_1 ++ t266) := ⟨_, rfl⟩
                          replace H : ((wispref03_Low.f k1 (IntKind.u64.wrap ((rd_T35 l0_6 x4_1).f1)) 2).bind fun t272 => (if y269.length + t272.length < 140737488355328 then ((some (y269 ++ t272 : List Int)).bind fun y275 => ((some (([(rd_T35 l0_6 x4_1).f2] : List Int) : List Int)).bind fun y278 => (if y275.length + y278.length < 140737488355328 then (wispref20_Bytes.l0 k1 (y275 ++ y278) (wrap64 (x4_1 + 1)) a0_0 a0_1 a0_2 a0_3 a0_4 l0_5 l0_6) else (none)))) else (none))) = some r := by first | (rw [hy269]; with_reducible exact H) | (have H2_ := (Option.bind_some _ _).symm.trans H; rw [hy269]; with_reducible exact H2_) | (have H2_ := (Option.bind_some _ _).symm.trans H; with_reducible exact H2_) | with_reducible exact H | (rw [hy269]; exact H) | exact H
                          have Ny269 := Aside0.mk hy269
                          clear hy269
                          replace H := Option.bind_eq_some_iff.mp H
                          obtain ⟨t272, A450, H⟩ := H
                          replace H : (if y269.length + t272.length < 140737488355328 then ((some (y269 ++ t272 : List Int)).bind fun y275 => ((some (([(rd_T35 l0_6 x4_1).f2] : List Int) : List Int)).bind fun y278 => (if y275.length + y278.length < 140737488355328 then (wispref20_Bytes.l0 k1 (y275 ++ y278) (wrap64 (x4_1 + 1)) a0_0 a0_1 a0_2 a0_3 a0_4 l0_5 l0_6) else (none)))) else (none)) = some r := H
                          have A45 := Aside0.mk A450
                          clear A450
                          by_cases c46 : y269.length + t272.length < 140737488355328
                          · rw [if_pos c46] at H
                            have LMc46 := Aside0.mk c46
                            clear c46
                            obtain ⟨y275, hy275⟩ : ∃ y_ : List Int, y_ = (y269 ++ t272) := ⟨_, rfl⟩
                            replace H : ((some (([(rd_T35 l0_6 x4_1).f2] : List Int) : List Int)).bind fun y278 => (if y275.length + y278.length < 140737488355328 then (wispref20_Bytes.l0 k1 (y275 ++ y278) (wrap64 (x4_1 + 1)) a0_0 a0_1 a0_2 a0_3 a0_4 l0_5 l0_6) else (none))) = some r := by first | (rw [hy275]; with_reducible exact H) | (have H2_ := (Option.bind_some _ _).symm.trans H; rw [hy275]; with_reducible exact H2_) | (have H2_ := (Option.bind_some _ _).symm.trans H; with_reducible exact H2_) | with_reducible exact H | (rw [hy275]; exact H) | exact H
                            have Ny275 := Aside0.mk hy275
                            clear hy275
                            obtain ⟨y278, hy278⟩ : ∃ y_ : List Int, y_ = (([(rd_T35 l0_6 x4_1).f2] : List Int)) := ⟨_, rfl⟩
                            replace H : (if y275.length + y278.length < 140737488355328 then (wispref20_Bytes.l0 k1 (y275 ++ y278) (wrap64 (x4_1 + 1)) a0_0 a0_1 a0_2 a0_3 a0_4 l0_5 l0_6) else (none)) = some r := by first | (rw [hy278]; with_reducible exact H) | (have H2_ := (Option.bind_some _ _).symm.trans H; rw [hy278]; with_reducible exact H2_) | (have H2_ := (Option.bind_some _ _).symm.trans H; with_reducible exact H2_) | with_reducible exact H | (rw [hy278]; exact H) | exact H
                            have Ny278 := Aside0.mk hy278
                            clear hy278
                            by_cases c47 : y275.length + y278.length < 140737488355328
                            · rw [if_pos c47] at H
                              have LMc47 := Aside0.mk c47
                              clear c47
                              obtain ⟨y281, hy281⟩ : ∃ y_ : List Int, y_ = (y275 ++ y278) := ⟨_, rfl⟩
                              replace H : (wispref20_Bytes.l0 k1 y281 (wrap64 (x4_1 + 1)) a0_0 a0_1 a0_2 a0_3 a0_4 l0_5 l0_6) = some r := by first | (rw [hy281]; with_reducible exact H) | (have H2_ := (Option.bind_some _ _).symm.trans H; rw [hy281]; with_reducible exact H2_) | (have H2_ := (Option.bind_some _ _).symm.trans H; with_reducible exact H2_) | with_reducible exact H | (rw [hy281]; exact H) | exact H
                              have Ny281 := Aside0.mk hy281
                              clear hy281
                              have H' := Aside0.mk H
                              clear H
                              have hcz48_0 : wr.cell? ⟨gb221, 0, none⟩ = some (.int .i64 a0_0) := (blk_cell BK221.out 0).trans rfl
                              have hcz48_1 : wr.cell? ⟨gb221, 1, none⟩ = some (.int .i64 a0_1) := (blk_cell BK221.out 1).trans rfl
                              have hcz48_2 : wr.cell? ⟨gb221, 2, none⟩ = some (.int .i64 a0_2) := (blk_cell BK221.out 2).trans rfl
                              have hcz48_3 : wr.cell? ⟨gb221, 3, none⟩ = some (.int .i64 a0_3) := (blk_cell BK221.out 3).trans rfl
                              have hcz48_4 : wr.cell? ⟨gb221, 4, none⟩ = some (.int .i64 a0_4) := (blk_cell BK221.out 4).trans rfl
                              have hcz48_5 : wr.cell? ⟨gb221, 5, none⟩ = some (.slice A0_5 l0_5.length c0_5) := (blk_cell BK221.out 5).trans rfl
                              have hcz48_6 : wr.cell? ⟨gb221, 6, none⟩ = some (.slice A0_6 l0_6.length c0_6) := (blk_cell BK221.out 6).trans rfl
                              have hfz48_0 := blk_frozen BK221.out 0
                              have hfz48_1 := blk_frozen BK221.out 1
                              have hfz48_2 := blk_frozen BK221.out 2
                              have hfz48_3 := blk_frozen BK221.out 3
                              have hfz48_4 := blk_frozen BK221.out 4
                              have hfz48_5 := blk_frozen BK221.out 5
                              have hfz48_6 := blk_frozen BK221.out 6
                              have p264 : 0 ≤ (x4_1 : Int) := of_decide_eq_true (by first | (with_reducible assumption) | assumption)
                              have q264 : x4_1 < (l0_6.length : Int) := of_decide_eq_true (by first | (with_reducible assumption) | assumption)
                              obtain ⟨ad264, e264, hx264_0, hx264_1, hx264_2⟩ := at_T35 HR0_6.out x4_1 p264 q264
                              cases e264
                              replace hx264_0 := (HB.out.cell (World.block_lt_of_cell? w _ hx264_0)).trans hx264_0
                              replace hx264_1 := (HB.out.cell (World.block_lt_of_cell? w _ hx264_1)).trans hx264_1
                              replace hx264_2 := (HB.out.cell (World.block_lt_of_cell? w _ hx264_2)).trans hx264_2
                              replace p264 := eq_true p264
                              replace q264 := eq_true q264
                              try go_wp2_with (first | ((with_reducible refine gate_dst (N := 5) rfl ?_); refine box_event ?hg (N := 5) ?hd (cs := #[.int .i64 0, .int .u16 0, .int .u8 0]) (t := 35) ?hr ?_; (case hd => rfl); (case hg => rfl); (case hr => first | (go_simp; done) | (go_simp; rfl)); intro gb265 hg w49 hbox hb; have n0_ := Aside0.mk (Kd.R_below (by (with_reducible repeat (first | apply Kd.R_alloc | apply Kd.R_drewN | apply Kd.R_drew)); exact HO_3.out) hb); have n1_ := Aside0.mk (blk_below (g := gb221) (o := .cells #[.int .i64 a0_0, .int .i64 a0_1, .int .i64 a0_2, .int .i64 a0_3, .int .i64 a0_4, .slice A0_5 l0_5.length c0_5, .slice (some ad264) l0_6.length c0_6] 39 (0, 0)) (by (with_reducible repeat (first | refine blk_drewN ?_ _ | refine blk_drew ?_ | refine blk_alloc ?_ _)); exact BK221.out) hb); have n2_ := Aside0.mk (below_step (by repeat (first | (with_reducible first | exact HB.out | apply below_alloc | apply pw_below_drewN | apply below_drew1 | refine below_set ?_ GE221.out) | exact HB.out)) hb); have n3_ := Aside0.mk (hbox); have n4_ := Aside0.mk ((by rw [hg]; exact (below_size (by repeat (first | (with_reducible first | exact HB.out | apply below_alloc | apply pw_below_drewN | apply below_drew1 | refine below_set ?_ GE221.out) | exact HB.out))) : w.heap.size ≤ gb265)); have n5_ := Aside0.mk ((by rw [hg]; exact (below_size (by repeat (first | (with_reducible first | exact HB.out | apply below_alloc | apply pw_below_drewN | apply below_drew1 | refine below_set ?_ GE221.out) | exact HB.out))) : w.heap.size ≤ gb265)); have n6_ := Aside0.mk ((by rw [hg]; exact Nat.ne_of_lt (blk_lt (g := gb221) (o := .cells #[.int .i64 a0_0, .int .i64 a0_1, .int .i64 a0_2, .int .i64 a0_3, .int .i64 a0_4, .slice A0_5 l0_5.length c0_5, .slice (some ad264) l0_6.length c0_6] 39 (0, 0)) (by (with_reducible repeat (first | refine blk_drewN ?_ _ | refine blk_drew ?_ | refine blk_alloc ?_ _)); exact BK221.out)) : gb221 ≠ gb265)); have n7_ := Aside0.mk ((by rw [hg]; exact Nat.ne_of_gt (blk_lt (g := gb221) (o := .cells #[.int .i64 a0_0, .int .i64 a0_1, .int .i64 a0_2, .int .i64 a0_3, .int .i64 a0_4, .slice A0_5 l0_5.length c0_5, .slice (some ad264) l0_6.length c0_6] 39 (0, 0)) (by (with_reducible repeat (first | refine blk_drewN ?_ _ | refine blk_drew ?_ | refine blk_alloc ?_ _)); exact BK221.out)) : gb265 ≠ gb221)); clear HO_3; clear BK221; clear HB; have HO_3 := n0_; have BK221 := n1_; have HB := n2_; have BK265 := n3_; have GW265 := n4_; have GE265 := n5_; have NB221_265 := n6_; have NB265_221 := n7_; clear n0_ n1_ n2_ n3_ n4_ n5_ n6_ n7_; clear hb hbox hg; have hnb50 := NB265_221.out; have hnc50 := NB221_265.out; have hcz51_0 : w49.cell? ⟨gb265, 0, none⟩ = some (.int .i64 0) := (blk_cell BK265.out 0).trans rfl; have hcz51_1 : w49.cell? ⟨gb265, 1, none⟩ = some (.int .u16 0) := (blk_cell BK265.out 1).trans rfl; have hcz51_2 : w49.cell? ⟨gb265, 2, none⟩ = some (.int .u8 0) := (blk_cell BK265.out 2).trans rfl; have hfz51_0 := blk_frozen BK265.out 0; have hfz51_1 := blk_frozen BK265.out 1; have hfz51_2 := blk_frozen BK265.out 2; obtain ⟨Ao52, co52, eo52⟩ := Kd.R_slice HO_3.out; subst eo52))
                              have n0_ : Aside0 (Kd.R (Kd.int .u8) 5 (((w49.setCell ⟨gb265, 0, none⟩ (.int .i64 ((rd_T35 l0_6 x4_1).f0))).setCell ⟨gb265, 1, none⟩ (.int .u16 ((rd_T35 l0_6 x4_1).f1))).setCell ⟨gb265, 2, none⟩ (.int .u8 ((rd_T35 l0_6 x4_1).f2))) w.heap.size (fun _ => True) (.slice Ao52 x3_1.length co52) x3_1) := ⟨by (with_reducible repeat (first | apply Kd.R_alloc | apply Kd.R_drewN | apply Kd.R_drew)); exact Kd.R_mono (Kd.R_far (p := ⟨gb265, 2, none⟩) (Kd.R_far (p := ⟨gb265, 1, none⟩) (Kd.R_far (p := ⟨gb265, 0, none⟩) (Kd.R_types HO_3.out BK265.out (by decide)) (fun _ hk => hk.2) (.int .i64 ((rd_T35 l0_6 x4_1).f0))) (fun _ hk => hk.2) (.int .u16 ((rd_T35 l0_6 x4_1).f1))) (fun _ hk => hk.2) (.int .u8 ((rd_T35 l0_6 x4_1).f2))) (fun _ hk => trivial)⟩
                              have n1_ : Aside0 ((((w49.setCell ⟨gb265, 0, none⟩ (.int .i64 ((rd_T35 l0_6 x4_1).f0))).setCell ⟨gb265, 1, none⟩ (.int .u16 ((rd_T35 l0_6 x4_1).f1))).setCell ⟨gb265, 2, none⟩ (.int .u8 ((rd_T35 l0_6 x4_1).f2))).heap[gb221]? = some (.cells #[.int .i64 a0_0, .int .i64 a0_1, .int .i64 a0_2, .int .i64 a0_3, .int .i64 a0_4, .slice A0_5 l0_5.length c0_5, .slice (some ad264) l0_6.length c0_6] 39 (0, 0))) := ⟨by (with_reducible repeat (first | refine blk_drewN ?_ _ | refine blk_drew ?_ | refine blk_alloc ?_ _)); refine blk_far ?_ NB221_265.out _; (with_reducible repeat (first | refine blk_drewN ?_ _ | refine blk_drew ?_ | refine blk_alloc ?_ _)); refine blk_far ?_ NB221_265.out _; (with_reducible repeat (first | refine blk_drewN ?_ _ | refine blk_drew ?_ | refine blk_alloc ?_ _)); refine blk_far ?_ NB221_265.out _; (with_reducible repeat (first | refine blk_drewN ?_ _ | refine blk_drew ?_ | refine blk_alloc ?_ _)); exact BK221.out⟩
                              have n2_ : Aside0 ((((w49.setCell ⟨gb265, 0, none⟩ (.int .i64 ((rd_T35 l0_6 x4_1).f0))).setCell ⟨gb265, 1, none⟩ (.int .u16 ((rd_T35 l0_6 x4_1).f1))).setCell ⟨gb265, 2, none⟩ (.int .u8 ((rd_T35 l0_6 x4_1).f2))).heap[gb265]? = some (.cells #[.int .i64 ((rd_T35 l0_6 x4_1).f0), .int .u16 ((rd_T35 l0_6 x4_1).f1), .int .u8 ((rd_T35 l0_6 x4_1).f2)] 35 (0, 0))) := ⟨by (with_reducible repeat (first | refine blk_drewN ?_ _ | refine blk_drew ?_ | refine blk_alloc ?_ _)); refine blk_put (cs := #[.int .i64 ((rd_T35 l0_6 x4_1).f0), .int .u16 ((rd_T35 l0_6 x4_1).f1), .int .u8 0]) ?_ 2 _ rfl; (with_reducible repeat (first | refine blk_drewN ?_ _ | refine blk_drew ?_ | refine blk_alloc ?_ _)); refine blk_put (cs := #[.int .i64 ((rd_T35 l0_6 x4_1).f0), .int .u16 0, .int .u8 0]) ?_ 1 _ rfl; (with_reducible repeat (first | refine blk_drewN ?_ _ | refine blk_drew ?_ | refine blk_alloc ?_ _)); refine blk_put (cs := #[.int .i64 0, .int .u16 0, .int .u8 0]) ?_ 0 _ rfl; (with_reducible repeat (first | refine blk_drewN ?_ _ | refine blk_drew ?_ | refine blk_alloc ?_ _)); exact BK265.out⟩
                              have n3_ : Aside0 (Below w.heap.size w (((w49.setCell ⟨gb265, 0, none⟩ (.int .i64 ((rd_T35 l0_6 x4_1).f0))).setCell ⟨gb265, 1, none⟩ (.int .u16 ((rd_T35 l0_6 x4_1).f1))).setCell ⟨gb265, 2, none⟩ (.int .u8 ((rd_T35 l0_6 x4_1).f2)))) := ⟨by repeat (first | (with_reducible first | exact HB.out | apply below_alloc | apply pw_below_drewN | apply below_drew1 | refine below_set ?_ GE221.out | refine below_set ?_ GE265.out) | exact HB.out)⟩
                              (try clear HO_3)
                              (try clear BK221)
                              (try clear BK265)
                              (try clear HB)
                              generalize (((w49.setCell ⟨gb265, 0, none⟩ (.int .i64 ((rd_T35 l0_6 x4_1).f0))).setCell ⟨gb265, 1, none⟩ (.int .u16 ((rd_T35 l0_6 x4_1).f1))).setCell ⟨gb265, 2, none⟩ (.int .u8 ((rd_T35 l0_6 x4_1).f2))) = w53 at n0_ n1_ n2_ n3_ ⊢
                              have HO_3 := n0_
                              have BK221 := n1_
                              have BK265 := n2_
                              have HB := n3_
                              clear n0_ n1_ n2_ n3_
                              have n0_ := Aside0.mk (Kd.R_drew HO_3.out)
                              have n1_ := Aside0.mk (blk_drew BK221.out)
                              have n2_ := Aside0.mk (blk_drew BK265.out)
                              have n3_ := Aside0.mk (below_drew1 HB.out)
                              clear HO_3
                              clear BK221
                              clear BK265
                              clear HB
                              have HO_3 := n0_
                              have BK221 := n1_
                              have BK265 := n2_
                              have HB := n3_
                              clear n0_ n1_ n2_ n3_
                              refine start_ (n := 15) (S := fun w' => w'.cell? ⟨gb265, 0, none⟩ = some (.int .i64 ((rd_T35 l0_6 x4_1).f0)) ∧ w'.cell? ⟨gb265, 1, none⟩ = some (.int .u16 ((rd_T35 l0_6 x4_1).f1)) ∧ w'.cell? ⟨gb265, 2, none⟩ = some (.int .u8 ((rd_T35 l0_6 x4_1).f2))) (ds := []) #[false, false, false, false, false, false, false, false, false, false, false, false, false, false, false] (by kernel_rfl) rfl rfl ⟨(blk_cell BK265.out 0).trans rfl, (blk_cell BK265.out 1).trans rfl, (blk_cell BK265.out 2).trans rfl⟩ (fun hHeld => ?_); refine with_tabW wispref20_Bytes.tab9 wispref20_Bytes.bits9 (fun HT_ HW_ => ?_)
                              generalize w53.drew = w54 at HO_3 BK221 BK265 HB hHeld ⊢
                              refine pure_ (i := 0) (N := some 53) (v := ?_) (a' := ?_) #[true, false, false, false, false, false, false, false, false, false, false, false, false, false, false] rfl rfl (any_of HT_.out (by kernel_rfl)) (fun _ _ _ h => h) (Or.inl ⟨by rfl, ?_⟩) ?_ ?_
                              rotate_left
                              · intro w'
                                go_simp
                                with_reducible rfl
                              rotate_left
                              · simp only [Act.put, List.setIfInBounds_toArray, List.set_cons_zero, List.set_cons_succ, i64_w, i32_w]
                                rfl
                              refine pure_ (i := 1) (N := some 54) (v := ?_) (a' := ?_) #[true, true, false, false, false, false, false, false, false, false, false, false, false, false, false] rfl rfl (any_of HT_.out (by kernel_rfl)) (fun _ _ _ h => h) (Or.inl ⟨by rfl, ?_⟩) ?_ ?_
                              rotate_left
                              · intro w'
                                go_simp
                                with_reducible rfl
                              rotate_left
                              · simp only [Act.put, List.setIfInBounds_toArray, List.set_cons_zero, List.set_cons_succ, i64_w, i32_w]
                                rfl
                              refine pure_ (i := 5) (N := some 58) (v := ?_) (a' := ?_) #[true, true, false, false, false, true, false, false, false, false, false, false, false, false, false] rfl rfl (any_of HT_.out (by kernel_rfl)) (fun _ _ _ h => h) (Or.inl ⟨by rfl, ?_⟩) ?_ ?_
                              rotate_left
                              · intro w'
                                go_simp
                                with_reducible rfl
                              rotate_left
                              · simp only [Act.put, List.setIfInBounds_toArray, List.set_cons_zero, List.set_cons_succ, i64_w, i32_w]
                                rfl
                              refine pure_ (i := 10) (N := some 63) (v := ?_) (a' := ?_) #[true, true, false, false, false, true, false, false, false, false, true, false, false, false, false] rfl rfl (any_of HT_.out (by kernel_rfl)) (fun _ _ _ h => h) (Or.inl ⟨by rfl, ?_⟩) ?_ ?_
                              rotate_left
                              · intro w'
                                go_simp
                                with_reducible rfl
                              rotate_left
                              · simp only [Act.put, List.setIfInBounds_toArray, List.set_cons_zero, List.set_cons_succ, i64_w, i32_w]
                                rfl
                              refine take_ (i := 2) (N := some 55) (v := ?_) (a' := ?_) #[true, true, true, false, false, true, false, false, false, false, true, false, false, false, false] rfl rfl (take_ofW HT_.out HW_.out (by kernel_rfl)) (fun _ _ _ h => h) (Or.inl ⟨by rfl, ?_⟩) hHeld ?_ ?_
                              rotate_left
                              · rintro w' ⟨s0, s1, s2⟩
                                go_simp
                                with_reducible rfl
                              rotate_left
                              · simp only [Act.put, List.setIfInBounds_toArray, List.set_cons_zero, List.set_cons_succ, i64_w, i32_w]
                                rfl
                              refine take_ (i := 6) (N := some 59) (v := ?_) (a' := ?_) #[true, true, true, false, false, true, true, false, false, false, true, false, false, false, false] rfl rfl (take_ofW HT_.out HW_.out (by kernel_rfl)) (fun _ _ _ h => h) (Or.inl ⟨by rfl, ?_⟩) hHeld ?_ ?_
                              rotate_left
                              · rintro w' ⟨s0, s1, s2⟩
                                go_simp
                                with_reducible rfl
                              rotate_left
                              · simp only [Act.put, List.setIfInBounds_toArray, List.set_cons_zero, List.set_cons_succ, i64_w, i32_w]
                                rfl
                              refine pure_ (i := 7) (N := some 60) (v := ?_) (a' := ?_) #[true, true, true, false, false, true, true, true, false, false, true, false, false, false, false] rfl rfl (any_of HT_.out (by kernel_rfl)) (fun _ _ _ h => h) (Or.inl ⟨by rfl, ?_⟩) ?_ ?_
                              rotate_left
                              · intro w'
                                go_simp
                                with_reducible rfl
                              rotate_left
                              · simp only [Act.put, List.setIfInBounds_toArray, List.set_cons_zero, List.set_cons_succ, i64_w, i32_w]
                                rfl
                              refine take_ (i := 11) (N := some 64) (v := ?_) (a' := ?_) #[true, true, true, false, false, true, true, true, false, false, true, true, false, false, false] rfl rfl (take_ofW HT_.out HW_.out (by kernel_rfl)) (fun _ _ _ h => h) (Or.inl ⟨by rfl, ?_⟩) hHeld ?_ ?_
                              rotate_left
                              · rintro w' ⟨s0, s1, s2⟩
                                go_simp
                                with_reducible rfl
                              rotate_left
                              · simp only [Act.put, List.setIfInBounds_toArray, List.set_cons_zero, List.set_cons_succ, i64_w, i32_w]
                                rfl
                              refine join_ (σ := Value × Value × Value × Value × Value) 2 #[true, true, true, true, true, true, true, true, true, true, true, true, true, false, false] (fun s_ => [(56, s_.1), (57, s_.2.1), (61, s_.2.2.1), (62, s_.2.2.2.1), (65, s_.2.2.2.2)]) (fun s_ w' => (w'.cell? ⟨gb265, 0, none⟩ = some (.int .i64 ((rd_T35 l0_6 x4_1).f0)) ∧ w'.cell? ⟨gb265, 1, none⟩ = some (.int .u16 ((rd_T35 l0_6 x4_1).f1)) ∧ w'.cell? ⟨gb265, 2, none⟩ = some (.int .u8 ((rd_T35 l0_6 x4_1).f2))) ∧ (Kd.R (Kd.int .u8) 5 w' w.heap.size (fun k_ => some k_ ≠ (s_.2.2.1 : Value).ownBlock ∧ some k_ ≠ (s_.2.2.2.1 : Value).ownBlock ∧ some k_ ≠ (s_.2.2.2.2 : Value).ownBlock) s_.1 t266) ∧ (Kd.R (Kd.int .u8) 5 w' w.heap.size (fun k_ => some k_ ≠ (s_.1 : Value).ownBlock ∧ some k_ ≠ (s_.2.2.2.1 : Value).ownBlock ∧ some k_ ≠ (s_.2.2.2.2 : Value).ownBlock) s_.2.2.1 t272) ∧ (Kd.R (Kd.int .u8) 5 w' w.heap.size (fun k_ => some k_ ≠ (s_.1 : Value).ownBlock ∧ some k_ ≠ (s_.2.2.1 : Value).ownBlock ∧ some k_ ≠ (s_.2.2.2.2 : Value).ownBlock) s_.2.2.2.1 y275) ∧ (Kd.R (Kd.int .u8) 5 w' w.heap.size (fun k_ => some k_ ≠ (s_.1 : Value).ownBlock ∧ some k_ ≠ (s_.2.2.1 : Value).ownBlock ∧ some k_ ≠ (s_.2.2.2.1 : Value).ownBlock) s_.2.2.2.2 y278) ∧ (w'.heap[gb221]? = some (.cells #[.int .i64 a0_0, .int .i64 a0_1, .int .i64 a0_2, .int .i64 a0_3, .int .i64 a0_4, .slice A0_5 l0_5.length c0_5, .slice (some ad264) l0_6.length c0_6] 39 (0, 0))) ∧ (w'.heap[gb265]? = some (.cells #[.int .i64 ((rd_T35 l0_6 x4_1).f0), .int .u16 ((rd_T35 l0_6 x4_1).f1), .int .u8 ((rd_T35 l0_6 x4_1).f2)] 35 (0, 0))) ∧ (Below w.heap.size w w')) ?_ ?_
                              rotate_left
                              · intro hJ3_4_8_9_12
                                refine join_ (σ := Value × Value × Value × Value) 3 #[true, true, true, true, true, true, true, true, true, true, true, true, false, false, false] (fun s_ => [(56, s_.1), (57, s_.2.1), (61, s_.2.2.1), (62, s_.2.2.2)]) (fun s_ w' => (w'.cell? ⟨gb265, 0, none⟩ = some (.int .i64 ((rd_T35 l0_6 x4_1).f0)) ∧ w'.cell? ⟨gb265, 1, none⟩ = some (.int .u16 ((rd_T35 l0_6 x4_1).f1)) ∧ w'.cell? ⟨gb265, 2, none⟩ = some (.int .u8 ((rd_T35 l0_6 x4_1).f2))) ∧ (Kd.R (Kd.int .u8) 5 w' w.heap.size (fun k_ => some k_ ≠ (s_.2.2.1 : Value).ownBlock ∧ some k_ ≠ (s_.2.2.2 : Value).ownBlock) s_.1 t266) ∧ (Kd.R (Kd.int .u8) 5 w' w.heap.size (fun k_ => some k_ ≠ (s_.1 : Value).ownBlock ∧ some k_ ≠ (s_.2.2.2 : Value).ownBlock) s_.2.2.1 t272) ∧ (Kd.R (Kd.int .u8) 5 w' w.heap.size (fun k_ => some k_ ≠ (s_.1 : Value).ownBlock ∧ some k_ ≠ (s_.2.2.1 : Value).ownBlock) s_.2.2.2 y275) ∧ (w'.heap[gb221]? = some (.cells #[.int .i64 a0_0, .int .i64 a0_1, .int .i64 a0_2, .int .i64 a0_3, .int .i64 a0_4, .slice A0_5 l0_5.length c0_5, .slice (some ad264) l0_6.length c0_6] 39 (0, 0))) ∧ (w'.heap[gb265]? = some (.cells #[.int .i64 ((rd_T35 l0_6 x4_1).f0), .int .u16 ((rd_T35 l0_6 x4_1).f1), .int .u8 ((rd_T35 l0_6 x4_1).f2)] 35 (0, 0))) ∧ (Below w.heap.size w w')) ?_ ?_
                                rotate_left
                                · intro hJ3_4_8_9
                                  refine join_ (σ := Value × Value × Value × Value) 3 #[true, true, true, true, true, true, true, true, true, false, true, true, true, false, false] (fun s_ => [(56, s_.1), (57, s_.2.1), (61, s_.2.2.1), (65, s_.2.2.2)]) (fun s_ w' => (w'.cell? ⟨gb265, 0, none⟩ = some (.int .i64 ((rd_T35 l0_6 x4_1).f0)) ∧ w'.cell? ⟨gb265, 1, none⟩ = some (.int .u16 ((rd_T35 l0_6 x4_1).f1)) ∧ w'.cell? ⟨gb265, 2, none⟩ = some (.int .u8 ((rd_T35 l0_6 x4_1).f2))) ∧ (Kd.R (Kd.int .u8) 5 w' w.heap.size (fun k_ => some k_ ≠ (s_.2.1 : Value).ownBlock ∧ some k_ ≠ (s_.2.2.1 : Value).ownBlock ∧ some k_ ≠ (s_.2.2.2 : Value).ownBlock) s_.1 t266) ∧ (Kd.R (Kd.int .u8) 5 w' w.heap.size (fun k_ => some k_ ≠ (s_.1 : Value).ownBlock ∧ some k_ ≠ (s_.2.2.1 : Value).ownBlock ∧ some k_ ≠ (s_.2.2.2 : Value).ownBlock) s_.2.1 y269) ∧ (Kd.R (Kd.int .u8) 5 w' w.heap.size (fun k_ => some k_ ≠ (s_.1 : Value).ownBlock ∧ some k_ ≠ (s_.2.1 : Value).ownBlock ∧ some k_ ≠ (s_.2.2.2 : Value).ownBlock) s_.2.2.1 t272) ∧ (Kd.R (Kd.int .u8) 5 w' w.heap.size (fun k_ => some k_ ≠ (s_.1 : Value).ownBlock ∧ some k_ ≠ (s_.2.1 : Value).ownBlock ∧ some k_ ≠ (s_.2.2.1 : Value).ownBlock) s_.2.2.2 y278) ∧ (w'.heap[gb221]? = some (.cells #[.int .i64 a0_0, .int .i64 a0_1, .int .i64 a0_2, .int .i64 a0_3, .int .i64 a0_4, .slice A0_5 l0_5.length c0_5, .slice (some ad264) l0_6.length c0_6] 39 (0, 0))) ∧ (w'.heap[gb265]? = some (.cells #[.int .i64 ((rd_T35 l0_6 x4_1).f0), .int .u16 ((rd_T35 l0_6 x4_1).f1), .int .u8 ((rd_T35 l0_6 x4_1).f2)] 35 (0, 0))) ∧ (Below w.heap.size w w')) ?_ ?_
                                  rotate_left
                                  · intro hJ3_4_8_12
                                    refine join_ (σ := Value × Value × Value) 4 #[true, true, true, true, true, true, true, true, true, false, true, true, false, false, false] (fun s_ => [(56, s_.1), (57, s_.2.1), (61, s_.2.2)]) (fun s_ w' => (w'.cell? ⟨gb265, 0, none⟩ = some (.int .i64 ((rd_T35 l0_6 x4_1).f0)) ∧ w'.cell? ⟨gb265, 1, none⟩ = some (.int .u16 ((rd_T35 l0_6 x4_1).f1)) ∧ w'.cell? ⟨gb265, 2, none⟩ = some (.int .u8 ((rd_T35 l0_6 x4_1).f2))) ∧ (Kd.R (Kd.int .u8) 5 w' w.heap.size (fun k_ => some k_ ≠ (s_.2.1 : Value).ownBlock ∧ some k_ ≠ (s_.2.2 : Value).ownBlock) s_.1 t266) ∧ (Kd.R (Kd.int .u8) 5 w' w.heap.size (fun k_ => some k_ ≠ (s_.1 : Value).ownBlock ∧ some k_ ≠ (s_.2.2 : Value).ownBlock) s_.2.1 y269) ∧ (Kd.R (Kd.int .u8) 5 w' w.heap.size (fun k_ => some k_ ≠ (s_.1 : Value).ownBlock ∧ some k_ ≠ (s_.2.1 : Value).ownBlock) s_.2.2 t272) ∧ (w'.heap[gb221]? = some (.cells #[.int .i64 a0_0, .int .i64 a0_1, .int .i64 a0_2, .int .i64 a0_3, .int .i64 a0_4, .slice A0_5 l0_5.length c0_5, .slice (some ad264) l0_6.length c0_6] 39 (0, 0))) ∧ (w'.heap[gb265]? = some (.cells #[.int .i64 ((rd_T35 l0_6 x4_1).f0), .int .u16 ((rd_T35 l0_6 x4_1).f1), .int .u8 ((rd_T35 l0_6 x4_1).f2)] 35 (0, 0))) ∧ (Below w.heap.size w w')) ?_ ?_
                                    rotate_left
                                    · intro hJ3_4_8
                                      refine join_ (σ := Value × Value × Value) 4 #[true, true, true, true, true, true, true, true, false, false, true, true, true, false, false] (fun s_ => [(56, s_.1), (57, s_.2.1), (65, s_.2.2)]) (fun s_ w' => (w'.cell? ⟨gb265, 0, none⟩ = some (.int .i64 ((rd_T35 l0_6 x4_1).f0)) ∧ w'.cell? ⟨gb265, 1, none⟩ = some (.int .u16 ((rd_T35 l0_6 x4_1).f1)) ∧ w'.cell? ⟨gb265, 2, none⟩ = some (.int .u8 ((rd_T35 l0_6 x4_1).f2))) ∧ (Kd.R (Kd.int .u8) 5 w' w.heap.size (fun k_ => some k_ ≠ (s_.2.1 : Value).ownBlock ∧ some k_ ≠ (s_.2.2 : Value).ownBlock) s_.1 t266) ∧ (Kd.R (Kd.int .u8) 5 w' w.heap.size (fun k_ => some k_ ≠ (s_.1 : Value).ownBlock ∧ some k_ ≠ (s_.2.2 : Value).ownBlock) s_.2.1 y269) ∧ (Kd.R (Kd.int .u8) 5 w' w.heap.size (fun k_ => some k_ ≠ (s_.1 : Value).ownBlock ∧ some k_ ≠ (s_.2.1 : Value).ownBlock) s_.2.2 y278) ∧ (w'.heap[gb221]? = some (.cells #[.int .i64 a0_0, .int .i64 a0_1, .int .i64 a0_2, .int .i64 a0_3, .int .i64 a0_4, .slice A0_5 l0_5.length c0_5, .slice (some ad264) l0_6.length c0_6] 39 (0, 0))) ∧ (w'.heap[gb265]? = some (.cells #[.int .i64 ((rd_T35 l0_6 x4_1).f0), .int .u16 ((rd_T35 l0_6 x4_1).f1), .int .u8 ((rd_T35 l0_6 x4_1).f2)] 35 (0, 0))) ∧ (Below w.heap.size w w')) ?_ ?_
                                      rotate_left
                                      · intro hJ3_4_12
                                        refine join_ (σ := Value × Value) 5 #[true, true, true, true, true, true, true, true, false, false, true, true, false, false, false] (fun s_ => [(56, s_.1), (57, s_.2)]) (fun s_ w' => (w'.cell? ⟨gb265, 0, none⟩ = some (.int .i64 ((rd_T35 l0_6 x4_1).f0)) ∧ w'.cell? ⟨gb265, 1, none⟩ = some (.int .u16 ((rd_T35 l0_6 x4_1).f1)) ∧ w'.cell? ⟨gb265, 2, none⟩ = some (.int .u8 ((rd_T35 l0_6 x4_1).f2))) ∧ (Kd.R (Kd.int .u8) 5 w' w.heap.size (fun k_ => some k_ ≠ (s_.2 : Value).ownBlock) s_.1 t266) ∧ (Kd.R (Kd.int .u8) 5 w' w.heap.size (fun k_ => some k_ ≠ (s_.1 : Value).ownBlock) s_.2 y269) ∧ (w'.heap[gb221]? = some (.cells #[.int .i64 a0_0, .int .i64 a0_1, .int .i64 a0_2, .int .i64 a0_3, .int .i64 a0_4, .slice A0_5 l0_5.length c0_5, .slice (some ad264) l0_6.length c0_6] 39 (0, 0))) ∧ (w'.heap[gb265]? = some (.cells #[.int .i64 ((rd_T35 l0_6 x4_1).f0), .int .u16 ((rd_T35 l0_6 x4_1).f1), .int .u8 ((rd_T35 l0_6 x4_1).f2)] 35 (0, 0))) ∧ (Below w.heap.size w w')) ?_ ?_
                                        rotate_left
                                        · intro hJ3_4
                                          refine join_ (σ := Value × Value) 5 #[true, true, true, true, false, true, true, true, false, false, true, true, true, false, false] (fun s_ => [(56, s_.1), (65, s_.2)]) (fun s_ w' => (w'.cell? ⟨gb265, 0, none⟩ = some (.int .i64 ((rd_T35 l0_6 x4_1).f0)) ∧ w'.cell? ⟨gb265, 1, none⟩ = some (.int .u16 ((rd_T35 l0_6 x4_1).f1)) ∧ w'.cell? ⟨gb265, 2, none⟩ = some (.int .u8 ((rd_T35 l0_6 x4_1).f2))) ∧ (Kd.R (Kd.int .u8) 5 w' w.heap.size (fun k_ => some k_ ≠ (s_.2 : Value).ownBlock ∧ some k_ ≠ (.slice Ao52 x3_1.length co52 : Value).ownBlock) s_.1 t266) ∧ (Kd.R (Kd.int .u8) 5 w' w.heap.size (fun k_ => some k_ ≠ (s_.1 : Value).ownBlock ∧ some k_ ≠ (.slice Ao52 x3_1.length co52 : Value).ownBlock) s_.2 y278) ∧ (Kd.R (Kd.int .u8) 5 w' w.heap.size (fun k_ => some k_ ≠ (s_.1 : Value).ownBlock ∧ some k_ ≠ (s_.2 : Value).ownBlock) (.slice Ao52 x3_1.length co52) x3_1) ∧ (w'.heap[gb221]? = some (.cells #[.int .i64 a0_0, .int .i64 a0_1, .int .i64 a0_2, .int .i64 a0_3, .int .i64 a0_4, .slice A0_5 l0_5.length c0_5, .slice (some ad264) l0_6.length c0_6] 39 (0, 0))) ∧ (w'.heap[gb265]? = some (.cells #[.int .i64 ((rd_T35 l0_6 x4_1).f0), .int .u16 ((rd_T35 l0_6 x4_1).f1), .int .u8 ((rd_T35 l0_6 x4_1).f2)] 35 (0, 0))) ∧ (Below w.heap.size w w')) ?_ ?_
                                          rotate_left
                                          · intro hJ3_12
                                            refine join_ (σ := Value) 6 #[true, true, true, true, false, true, true, true, false, false, true, true, false, false, false] (fun s_ => [(56, s_)]) (fun s_ w' => (w'.cell? ⟨gb265, 0, none⟩ = some (.int .i64 ((rd_T35 l0_6 x4_1).f0)) ∧ w'.cell? ⟨gb265, 1, none⟩ = some (.int .u16 ((rd_T35 l0_6 x4_1).f1)) ∧ w'.cell? ⟨gb265, 2, none⟩ = some (.int .u8 ((rd_T35 l0_6 x4_1).f2))) ∧ (Kd.R (Kd.int .u8) 5 w' w.heap.size (fun k_ => some k_ ≠ (.slice Ao52 x3_1.length co52 : Value).ownBlock) s_ t266) ∧ (Kd.R (Kd.int .u8) 5 w' w.heap.size (fun k_ => some k_ ≠ (s_ : Value).ownBlock) (.slice Ao52 x3_1.length co52) x3_1) ∧ (w'.heap[gb221]? = some (.cells #[.int .i64 a0_0, .int .i64 a0_1, .int .i64 a0_2, .int .i64 a0_3, .int .i64 a0_4, .slice A0_5 l0_5.length c0_5, .slice (some ad264) l0_6.length c0_6] 39 (0, 0))) ∧ (w'.heap[gb265]? = some (.cells #[.int .i64 ((rd_T35 l0_6 x4_1).f0), .int .u16 ((rd_T35 l0_6 x4_1).f1), .int .u8 ((rd_T35 l0_6 x4_1).f2)] 35 (0, 0))) ∧ (Below w.heap.size w w')) ?_ ?_
                                            rotate_left
                                            · intro hJ3
                                              refine join_ (σ := Value) 6 #[true, true, true, false, false, true, true, true, false, false, true, true, true, false, false] (fun s_ => [(65, s_)]) (fun s_ w' => (w'.cell? ⟨gb265, 0, none⟩ = some (.int .i64 ((rd_T35 l0_6 x4_1).f0)) ∧ w'.cell? ⟨gb265, 1, none⟩ = some (.int .u16 ((rd_T35 l0_6 x4_1).f1)) ∧ w'.cell? ⟨gb265, 2, none⟩ = some (.int .u8 ((rd_T35 l0_6 x4_1).f2))) ∧ (Kd.R (Kd.int .u8) 5 w' w.heap.size (fun k_ => some k_ ≠ (.slice Ao52 x3_1.length co52 : Value).ownBlock) s_ y278) ∧ (Kd.R (Kd.int .u8) 5 w' w.heap.size (fun k_ => some k_ ≠ (s_ : Value).ownBlock) (.slice Ao52 x3_1.length co52) x3_1) ∧ (w'.heap[gb221]? = some (.cells #[.int .i64 a0_0, .int .i64 a0_1, .int .i64 a0_2, .int .i64 a0_3, .int .i64 a0_4, .slice A0_5 l0_5.length c0_5, .slice (some ad264) l0_6.length c0_6] 39 (0, 0))) ∧ (w'.heap[gb265]? = some (.cells #[.int .i64 ((rd_T35 l0_6 x4_1).f0), .int .u16 ((rd_T35 l0_6 x4_1).f1), .int .u8 ((rd_T35 l0_6 x4_1).f2)] 35 (0, 0))) ∧ (Below w.heap.size w w')) ?_ ?_
                                              rotate_left
                                              · intro hJ12
                                                refine two_ (i := 3) (j := 12) (Ni := some 56) (Nj := some 65) #[true, true, true, true, false, true, true, true, false, false, true, true, false, false, false] #[true, true, true, false, false, true, true, true, false, false, true, true, true, false, false] rfl rfl rfl rfl (two_of HT_.out (by kernel_rfl)) (by decide) (by decide) (fun K hK => ?_) (fun K hK => ?_)
                                                · skip
                                                  refine goes_ Tryd.func38 (by kernel_rfl) rfl #[.int .i64 ((rd_T35 l0_6 x4_1).f0)] (by rfl) rfl rfl (by (try simp only [List.map_toArray, List.map_cons, List.map_nil]); first | done | rfl | (simp only [List.length_drop, List.length_take]; rfl)) ?_
                                                  with_reducible refine (wispref20_four.calls k1 ((rd_T35 l0_6 x4_1).f0) t266 _ A43.out).mono ?_
                                                  rintro e w55 ⟨v267, rfl, ho0, hb⟩
                                                  refine ⟨_, rfl, ?_⟩
                                                  have n0_ := Aside0.mk (Kd.R_elder' (by (with_reducible repeat (first | apply Kd.R_alloc | apply Kd.R_drewN | apply Kd.R_drew)); exact HO_3.out) (Kd.R_base ho0) hb)
                                                  have n1_ := Aside0.mk (Kd.R_lower (Kd.R_new' ho0 (Kd.R_lt (by (with_reducible repeat (first | apply Kd.R_alloc | apply Kd.R_drewN | apply Kd.R_drew)); exact HO_3.out))) (below_size (by repeat (first | (with_reducible first | exact HB.out | apply below_alloc | apply pw_below_drewN | apply below_drew1 | refine below_set ?_ GE221.out | refine below_set ?_ GE265.out) | exact HB.out))))
                                                  have n2_ := Aside0.mk (blk_below (g := gb221) (o := .cells #[.int .i64 a0_0, .int .i64 a0_1, .int .i64 a0_2, .int .i64 a0_3, .int .i64 a0_4, .slice A0_5 l0_5.length c0_5, .slice (some ad264) l0_6.length c0_6] 39 (0, 0)) (by (with_reducible repeat (first | refine blk_drewN ?_ _ | refine blk_drew ?_ | refine blk_alloc ?_ _)); exact BK221.out) hb)
                                                  have n3_ := Aside0.mk (blk_below (g := gb265) (o := .cells #[.int .i64 ((rd_T35 l0_6 x4_1).f0), .int .u16 ((rd_T35 l0_6 x4_1).f1), .int .u8 ((rd_T35 l0_6 x4_1).f2)] 35 (0, 0)) (by (with_reducible repeat (first | refine blk_drewN ?_ _ | refine blk_drew ?_ | refine blk_alloc ?_ _)); exact BK265.out) hb)
                                                  have n4_ := Aside0.mk (below_step (by repeat (first | (with_reducible first | exact HB.out | apply below_alloc | apply pw_below_drewN | apply below_drew1 | refine below_set ?_ GE221.out | refine below_set ?_ GE265.out) | exact HB.out)) hb)
                                                  clear HO_3
                                                  clear BK221
                                                  clear BK265
                                                  clear HB
                                                  have HO_3 := n0_
                                                  have HO268 := n1_
                                                  have BK221 := n2_
                                                  have BK265 := n3_
                                                  have HB := n4_
                                                  clear n0_ n1_ n2_ n3_ n4_
                                                  (try clear hb)
                                                  (try clear hb2)
                                                  (try clear hk)
                                                  (try clear hi)
                                                  (try clear ho0)
                                                  refine hK.out _ _ ⟨(blk_cell BK265.out 0).trans rfl, (blk_cell BK265.out 1).trans rfl, (blk_cell BK265.out 2).trans rfl⟩ (fun hHeld => ?_)
                                                  clear hK K
                                                  refine norm_ (a' := ?_) ?_ ?_
                                                  rotate_left
                                                  · show Act.put _ (some 56) _ = _
                                                    simp only [Act.put, List.setIfInBounds_toArray, List.set_cons_zero, List.set_cons_succ, i64_w, i32_w]
                                                    rfl
                                                  exact norm_ (by first | (simp only [putAll, Act.put, List.setIfInBounds_toArray, List.set_cons_zero, List.set_cons_succ]; done) | (simp only [putAll, Act.put, List.setIfInBounds_toArray, List.set_cons_zero, List.set_cons_succ]; rfl)) (hJ3 (v267) _ ⟨hHeld, (by (with_reducible repeat (first | apply Kd.R_alloc | apply Kd.R_drewN | apply Kd.R_drew)); exact Kd.R_mono HO268.out (fun _ hk => hk.2)), (by (with_reducible repeat (first | apply Kd.R_alloc | apply Kd.R_drewN | apply Kd.R_drew)); exact Kd.R_mono HO_3.out (fun _ hk => hk.2)), (by (with_reducible repeat (first | refine blk_drewN ?_ _ | refine blk_drew ?_ | refine blk_alloc ?_ _)); exact BK221.out), (by (with_reducible repeat (first | refine blk_drewN ?_ _ | refine blk_drew ?_ | refine blk_alloc ?_ _)); exact BK265.out), (by repeat (first | (with_reducible first | exact HB.out | apply below_alloc | apply pw_below_drewN | apply below_drew1 | refine below_set ?_ GE221.out | refine below_set ?_ GE265.out) | exact HB.out))⟩)
                                                · skip
                                                  refine Kd.R_lit_step (Kd.int .u8) _ 5 ?hg (N := 65) ?hd (xs := ([(rd_T35 l0_6 x4_1).f2] : List Int)) (inner := [.int .u8 ((rd_T35 l0_6 x4_1).f2)]) (ok := fun _ => True) (okp := fun _ => True) ?hr ?hp (fun _ hk => hk) trivial (Below.refl _ _) (Nat.le_refl _) (by simp) ?_; (case hd => rfl); (case hg => rfl); (case hr => first | (go_simp; done) | (go_simp; rfl)); (case hp => exact (Reps.one (show Kd.M (Kd.int .u8) _ _ _ ((rd_T35 l0_6 x4_1).f2) [.int .u8 ((rd_T35 l0_6 x4_1).f2)] from rfl) (Reps.none _ _)))
                                                  intro v279 w55 ho56 hb hg_ hnew_
                                                  clear hg_ hnew_
                                                  (first | rw [← Ny278.out] at ho56 | (simp only [Int.reduceToNat] at ho56; rw [← Ny278.out] at ho56))
                                                  have n0_ := Aside0.mk (Kd.R_elder' (by (with_reducible repeat (first | apply Kd.R_alloc | apply Kd.R_drewN | apply Kd.R_drew)); exact HO_3.out) (Kd.R_base ho56) hb)
                                                  have n1_ := Aside0.mk (Kd.R_lower (Kd.R_new' ho56 (Kd.R_lt (by (with_reducible repeat (first | apply Kd.R_alloc | apply Kd.R_drewN | apply Kd.R_drew)); exact HO_3.out))) (below_size (by repeat (first | (with_reducible first | exact HB.out | apply below_alloc | apply pw_below_drewN | apply below_drew1 | refine below_set ?_ GE221.out | refine below_set ?_ GE265.out) | exact HB.out))))
                                                  have n2_ := Aside0.mk (blk_below (g := gb221) (o := .cells #[.int .i64 a0_0, .int .i64 a0_1, .int .i64 a0_2, .int .i64 a0_3, .int .i64 a0_4, .slice A0_5 l0_5.length c0_5, .slice (some ad264) l0_6.length c0_6] 39 (0, 0)) (by (with_reducible repeat (first | refine blk_drewN ?_ _ | refine blk_drew ?_ | refine blk_alloc ?_ _)); exact BK221.out) hb)
                                                  have n3_ := Aside0.mk (blk_below (g := gb265) (o := .cells #[.int .i64 ((rd_T35 l0_6 x4_1).f0), .int .u16 ((rd_T35 l0_6 x4_1).f1), .int .u8 ((rd_T35 l0_6 x4_1).f2)] 35 (0, 0)) (by (with_reducible repeat (first | refine blk_drewN ?_ _ | refine blk_drew ?_ | refine blk_alloc ?_ _)); exact BK265.out) hb)
                                                  have n4_ := Aside0.mk (below_step (by repeat (first | (with_reducible first | exact HB.out | apply below_alloc | apply pw_below_drewN | apply below_drew1 | refine below_set ?_ GE221.out | refine below_set ?_ GE265.out) | exact HB.out)) hb)
                                                  clear HO_3
                                                  clear BK221
                                                  clear BK265
                                                  clear HB
                                                  have HO_3 := n0_
                                                  have HO280 := n1_
                                                  have BK221 := n2_
                                                  have BK265 := n3_
                                                  have HB := n4_
                                                  clear n0_ n1_ n2_ n3_ n4_
                                                  clear hb ho56
                                                  refine hK.out _ _ ⟨(blk_cell BK265.out 0).trans rfl, (blk_cell BK265.out 1).trans rfl, (blk_cell BK265.out 2).trans rfl⟩ (fun hHeld => ?_)
                                                  clear hK K
                                                  refine norm_ (a' := ?_) ?_ ?_
                                                  rotate_left
                                                  · show Act.put _ (some 65) _ = _
                                                    simp only [Act.put, List.setIfInBounds_toArray, List.set_cons_zero, List.set_cons_succ, i64_w, i32_w]
                                                    rfl
                                                  exact norm_ (by first | (simp only [putAll, Act.put, List.setIfInBounds_toArray, List.set_cons_zero, List.set_cons_succ]; done) | (simp only [putAll, Act.put, List.setIfInBounds_toArray, List.set_cons_zero, List.set_cons_succ]; rfl)) (hJ12 (v279) _ ⟨hHeld, (by (with_reducible repeat (first | apply Kd.R_alloc | apply Kd.R_drewN | apply Kd.R_drew)); exact Kd.R_mono HO280.out (fun _ hk => hk.2)), (by (with_reducible repeat (first | apply Kd.R_alloc | apply Kd.R_drewN | apply Kd.R_drew)); exact Kd.R_mono HO_3.out (fun _ hk => hk.2)), (by (with_reducible repeat (first | refine blk_drewN ?_ _ | refine blk_drew ?_ | refine blk_alloc ?_ _)); exact BK221.out), (by (with_reducible repeat (first | refine blk_drewN ?_ _ | refine blk_drew ?_ | refine blk_alloc ?_ _)); exact BK265.out), (by repeat (first | (with_reducible first | exact HB.out | apply below_alloc | apply pw_below_drewN | apply below_drew1 | refine below_set ?_ GE221.out | refine below_set ?_ GE265.out) | exact HB.out))⟩)
                                              · skip
                                                rintro v279 w57 ⟨hS_, h0_, h1_, h2_, h3_, h4_⟩
                                                have n0_ : Aside0 (Kd.R (Kd.int .u8) 5 w57 w.heap.size (fun k_ => some k_ ≠ (.slice Ao52 x3_1.length co52 : Value).ownBlock) v279 y278) := ⟨h0_⟩
                                                have n1_ : Aside0 (Kd.R (Kd.int .u8) 5 w57 w.heap.size (fun k_ => some k_ ≠ (v279 : Value).ownBlock) (.slice Ao52 x3_1.length co52) x3_1) := ⟨h1_⟩
                                                have n2_ : Aside0 (w57.heap[gb221]? = some (.cells #[.int .i64 a0_0, .int .i64 a0_1, .int .i64 a0_2, .int .i64 a0_3, .int .i64 a0_4, .slice A0_5 l0_5.length c0_5, .slice (some ad264) l0_6.length c0_6] 39 (0, 0))) := ⟨h2_⟩
                                                have n3_ : Aside0 (w57.heap[gb265]? = some (.cells #[.int .i64 ((rd_T35 l0_6 x4_1).f0), .int .u16 ((rd_T35 l0_6 x4_1).f1), .int .u8 ((rd_T35 l0_6 x4_1).f2)] 35 (0, 0))) := ⟨h3_⟩
                                                have n4_ : Aside0 (Below w.heap.size w w57) := ⟨h4_⟩
                                                clear HO_3
                                                clear BK221
                                                clear BK265
                                                clear HB
                                                clear h0_ h1_ h2_ h3_ h4_
                                                have HO280 := n0_
                                                have HO_3 := n1_
                                                have BK221 := n2_
                                                have BK265 := n3_
                                                have HB := n4_
                                                clear n0_ n1_ n2_ n3_ n4_
                                                have hHeld : w57.cell? ⟨gb265, 0, none⟩ = some (.int .i64 ((rd_T35 l0_6 x4_1).f0)) ∧ w57.cell? ⟨gb265, 1, none⟩ = some (.int .u16 ((rd_T35 l0_6 x4_1).f1)) ∧ w57.cell? ⟨gb265, 2, none⟩ = some (.int .u8 ((rd_T35 l0_6 x4_1).f2)) := hS_
                                                refine norm_ (a' := ?_) ?_ ?_
                                                rotate_left
                                                · simp only [putAll, Act.put, List.setIfInBounds_toArray, List.set_cons_zero, List.set_cons_succ]
                                                  rfl
                                                refine one_ (i := 3) (N := some 56) #[true, true, true, true, false, true, true, true, false, false, true, true, true, false, false] rfl rfl (one_of HT_.out (by kernel_rfl)) (by decide) (fun K hK => ?_)
                                                refine goes_ Tryd.func38 (by kernel_rfl) rfl #[.int .i64 ((rd_T35 l0_6 x4_1).f0)] (by rfl) rfl rfl (by (try simp only [List.map_toArray, List.map_cons, List.map_nil]); first | done | rfl | (simp only [List.length_drop, List.length_take]; rfl)) ?_
                                                with_reducible refine (wispref20_four.calls k1 ((rd_T35 l0_6 x4_1).f0) t266 _ A43.out).mono ?_
                                                rintro e w58 ⟨v267, rfl, ho0, hb⟩
                                                refine ⟨_, rfl, ?_⟩
                                                have n0_ := Aside0.mk (Kd.R_elder' (by (with_reducible repeat (first | apply Kd.R_alloc | apply Kd.R_drewN | apply Kd.R_drew)); exact HO_3.out) (Kd.R_base ho0) hb)
                                                have n1_ := Aside0.mk (Kd.R_elder' (by (with_reducible repeat (first | apply Kd.R_alloc | apply Kd.R_drewN | apply Kd.R_drew)); exact HO280.out) (Kd.R_base ho0) hb)
                                                have n2_ := Aside0.mk (Kd.R_lower (Kd.R_new' (Kd.R_new' ho0 (Kd.R_lt (by (with_reducible repeat (first | apply Kd.R_alloc | apply Kd.R_drewN | apply Kd.R_drew)); exact HO_3.out))) (Kd.R_lt (by (with_reducible repeat (first | apply Kd.R_alloc | apply Kd.R_drewN | apply Kd.R_drew)); exact HO280.out))) (below_size (by repeat (first | (with_reducible first | exact HB.out | apply below_alloc | apply pw_below_drewN | apply below_drew1 | refine below_set ?_ GE221.out | refine below_set ?_ GE265.out) | exact HB.out))))
                                                have n3_ := Aside0.mk (blk_below (g := gb221) (o := .cells #[.int .i64 a0_0, .int .i64 a0_1, .int .i64 a0_2, .int .i64 a0_3, .int .i64 a0_4, .slice A0_5 l0_5.length c0_5, .slice (some ad264) l0_6.length c0_6] 39 (0, 0)) (by (with_reducible repeat (first | refine blk_drewN ?_ _ | refine blk_drew ?_ | refine blk_alloc ?_ _)); exact BK221.out) hb)
                                                have n4_ := Aside0.mk (blk_below (g := gb265) (o := .cells #[.int .i64 ((rd_T35 l0_6 x4_1).f0), .int .u16 ((rd_T35 l0_6 x4_1).f1), .int .u8 ((rd_T35 l0_6 x4_1).f2)] 35 (0, 0)) (by (with_reducible repeat (first | refine blk_drewN ?_ _ | refine blk_drew ?_ | refine blk_alloc ?_ _)); exact BK265.out) hb)
                                                have n5_ := Aside0.mk (below_step (by repeat (first | (with_reducible first | exact HB.out | apply below_alloc | apply pw_below_drewN | apply below_drew1 | refine below_set ?_ GE221.out | refine below_set ?_ GE265.out) | exact HB.out)) hb)
                                                clear HO_3
                                                clear HO280
                                                clear BK221
                                                clear BK265
                                                clear HB
                                                have HO_3 := n0_
                                                have HO280 := n1_
                                                have HO268 := n2_
                                                have BK221 := n3_
                                                have BK265 := n4_
                                                have HB := n5_
                                                clear n0_ n1_ n2_ n3_ n4_ n5_
                                                (try clear hb)
                                                (try clear hb2)
                                                (try clear hk)
                                                (try clear hi)
                                                (try clear ho0)
                                                refine hK.out _ _ ⟨(blk_cell BK265.out 0).trans rfl, (blk_cell BK265.out 1).trans rfl, (blk_cell BK265.out 2).trans rfl⟩ (fun hHeld => ?_)
                                                clear hK K
                                                refine norm_ (a' := ?_) ?_ ?_
                                                rotate_left
                                                · show Act.put _ (some 56) _ = _
                                                  simp only [Act.put, List.setIfInBounds_toArray, List.set_cons_zero, List.set_cons_succ, i64_w, i32_w]
                                                  rfl
                                                exact norm_ (by first | (simp only [putAll, Act.put, List.setIfInBounds_toArray, List.set_cons_zero, List.set_cons_succ]; done) | (simp only [putAll, Act.put, List.setIfInBounds_toArray, List.set_cons_zero, List.set_cons_succ]; rfl)) (hJ3_12 (v267, v279) _ ⟨hHeld, (by (with_reducible repeat (first | apply Kd.R_alloc | apply Kd.R_drewN | apply Kd.R_drew)); exact Kd.R_mono HO268.out (fun _ hk => ⟨hk.2, hk.1.2⟩)), (by (with_reducible repeat (first | apply Kd.R_alloc | apply Kd.R_drewN | apply Kd.R_drew)); exact Kd.R_mono HO280.out (fun _ hk => ⟨hk.2, hk.1⟩)), (by (with_reducible repeat (first | apply Kd.R_alloc | apply Kd.R_drewN | apply Kd.R_drew)); exact Kd.R_mono HO_3.out (fun _ hk => ⟨hk.2, hk.1⟩)), (by (with_reducible repeat (first | refine blk_drewN ?_ _ | refine blk_drew ?_ | refine blk_alloc ?_ _)); exact BK221.out), (by (with_reducible repeat (first | refine blk_drewN ?_ _ | refine blk_drew ?_ | refine blk_alloc ?_ _)); exact BK265.out), (by repeat (first | (with_reducible first | exact HB.out | apply below_alloc | apply pw_below_drewN | apply below_drew1 | refine below_set ?_ GE221.out | refine below_set ?_ GE265.out) | exact HB.out))⟩)
                                            · skip
                                              rintro v267 w56 ⟨hS_, h0_, h1_, h2_, h3_, h4_⟩
                                              have n0_ : Aside0 (Kd.R (Kd.int .u8) 5 w56 w.heap.size (fun k_ => some k_ ≠ (.slice Ao52 x3_1.length co52 : Value).ownBlock) v267 t266) := ⟨h0_⟩
                                              have n1_ : Aside0 (Kd.R (Kd.int .u8) 5 w56 w.heap.size (fun k_ => some k_ ≠ (v267 : Value).ownBlock) (.slice Ao52 x3_1.length co52) x3_1) := ⟨h1_⟩
                                              have n2_ : Aside0 (w56.heap[gb221]? = some (.cells #[.int .i64 a0_0, .int .i64 a0_1, .int .i64 a0_2, .int .i64 a0_3, .int .i64 a0_4, .slice A0_5 l0_5.length c0_5, .slice (some ad264) l0_6.length c0_6] 39 (0, 0))) := ⟨h2_⟩
                                              have n3_ : Aside0 (w56.heap[gb265]? = some (.cells #[.int .i64 ((rd_T35 l0_6 x4_1).f0), .int .u16 ((rd_T35 l0_6 x4_1).f1), .int .u8 ((rd_T35 l0_6 x4_1).f2)] 35 (0, 0))) := ⟨h3_⟩
                                              have n4_ : Aside0 (Below w.heap.size w w56) := ⟨h4_⟩
                                              clear HO_3
                                              clear BK221
                                              clear BK265
                                              clear HB
                                              clear h0_ h1_ h2_ h3_ h4_
                                              have HO268 := n0_
                                              have HO_3 := n1_
                                              have BK221 := n2_
                                              have BK265 := n3_
                                              have HB := n4_
                                              clear n0_ n1_ n2_ n3_ n4_
                                              have hHeld : w56.cell? ⟨gb265, 0, none⟩ = some (.int .i64 ((rd_T35 l0_6 x4_1).f0)) ∧ w56.cell? ⟨gb265, 1, none⟩ = some (.int .u16 ((rd_T35 l0_6 x4_1).f1)) ∧ w56.cell? ⟨gb265, 2, none⟩ = some (.int .u8 ((rd_T35 l0_6 x4_1).f2)) := hS_
                                              obtain ⟨Ao58, co58, eo58⟩ := Kd.R_slice HO268.out
                                              (first | subst eo58 | (injection eo58 with f1_ f2_ f3_; have f4_ := f1_.symm; have f5_ := f3_.symm; clear f1_ f2_ f3_; subst f4_; subst f5_))
                                              refine norm_ (a' := ?_) ?_ ?_
                                              rotate_left
                                              · simp only [putAll, Act.put, List.setIfInBounds_toArray, List.set_cons_zero, List.set_cons_succ]
                                                rfl
                                              refine two_ (i := 4) (j := 12) (Ni := some 57) (Nj := some 65) #[true, true, true, true, true, true, true, true, false, false, true, true, false, false, false] #[true, true, true, true, false, true, true, true, false, false, true, true, true, false, false] rfl rfl rfl rfl (two_of HT_.out (by kernel_rfl)) (by decide) (by decide) (fun K hK => ?_) (fun K hK => ?_)
                                              · skip
                                                refine Kd.R_append_rows_step (Kd.int .u8) (w0 := w) w.heap.size (by rfl) (.tmp 53) (.tmp 56) 24 5 (.int .u8 0) 1 rfl Tryd.underlying24 info5 rfl (by decide) (by omega) (.slice Ao52 x3_1.length co52) x3_1 t266 _ _ _ (fun k_ => some k_ ≠ (.slice Ao58 t266.length co58 : Value).ownBlock) (fun _ => False) rfl rfl ?aO ?aR (fun _ _ h => h) (fun _ h => h.elim) ?aF ?aB ?aS ?aL ?_
                                                (case aR => repeat (first | exact (Kd.R_reads' HO268.out).2.2 | (with_reducible refine Kd.C_alloc ?_ _) | (with_reducible refine Kd.C_drewN ?_ _) | (with_reducible refine Kd.C_drew ?_)))
                                                (case aB => exact (by repeat (first | (with_reducible first | exact HB.out | apply below_alloc | apply pw_below_drewN | apply below_drew1 | refine below_set ?_ GE221.out | refine below_set ?_ GE265.out) | exact HB.out)))
                                                (case aF => exact (fun k_ hk => Kd.fresh' (Kd.R_lt (by (with_reducible repeat (first | apply Kd.R_alloc | apply Kd.R_drewN | apply Kd.R_drew)); exact HO268.out)) k_ hk))
                                                (case aO => exact (by (with_reducible repeat (first | apply Kd.R_alloc | apply Kd.R_drewN | apply Kd.R_drew)); exact HO_3.out))
                                                (case aS => exact (below_size (by repeat (first | (with_reducible first | exact HB.out | apply below_alloc | apply pw_below_drewN | apply below_drew1 | refine below_set ?_ GE221.out | refine below_set ?_ GE265.out) | exact HB.out))))
                                                (case aL => have := LMc44.out; omega)
                                                intro v270 w57 ho hb hg hat
                                                rw [← Ny269.out] at ho
                                                have n0_ := Aside0.mk (blk_grown (g := gb221) (o := .cells #[.int .i64 a0_0, .int .i64 a0_1, .int .i64 a0_2, .int .i64 a0_3, .int .i64 a0_4, .slice A0_5 l0_5.length c0_5, .slice (some ad264) l0_6.length c0_6] 39 (0, 0)) (by (with_reducible repeat (first | refine blk_drewN ?_ _ | refine blk_drew ?_ | refine blk_alloc ?_ _)); exact BK221.out) hg (Kd.R_ne HO_3.out BK221.out (by decide)))
                                                have n1_ := Aside0.mk (blk_grown (g := gb265) (o := .cells #[.int .i64 ((rd_T35 l0_6 x4_1).f0), .int .u16 ((rd_T35 l0_6 x4_1).f1), .int .u8 ((rd_T35 l0_6 x4_1).f2)] 35 (0, 0)) (by (with_reducible repeat (first | refine blk_drewN ?_ _ | refine blk_drew ?_ | refine blk_alloc ?_ _)); exact BK265.out) hg (Kd.R_ne HO_3.out BK265.out (by decide)))
                                                have n2_ := Aside0.mk (Kd.R_after (ok := (fun _ => True)) (by (with_reducible repeat (first | apply Kd.R_alloc | apply Kd.R_drewN | apply Kd.R_drew)); exact Kd.R_mono HO268.out (fun _ hk => ⟨trivial, hk⟩)) hg hat)
                                                have n3_ := Aside0.mk (hb)
                                                have n4_ := Aside0.mk (ho)
                                                clear BK221
                                                clear BK265
                                                clear HO268
                                                clear HB
                                                clear HO_3
                                                have BK221 := n0_
                                                have BK265 := n1_
                                                have HO268 := n2_
                                                have HB := n3_
                                                have HO271 := n4_
                                                clear n0_ n1_ n2_ n3_ n4_
                                                clear ho hb hg hat
                                                refine hK.out _ _ ⟨(blk_cell BK265.out 0).trans rfl, (blk_cell BK265.out 1).trans rfl, (blk_cell BK265.out 2).trans rfl⟩ (fun hHeld => ?_)
                                                clear hK K
                                                refine norm_ (a' := ?_) ?_ ?_
                                                rotate_left
                                                · show Act.put _ (some 57) _ = _
                                                  simp only [Act.put, List.setIfInBounds_toArray, List.set_cons_zero, List.set_cons_succ, i64_w, i32_w]
                                                  rfl
                                                exact norm_ (by first | (simp only [putAll, Act.put, List.setIfInBounds_toArray, List.set_cons_zero, List.set_cons_succ]; done) | (simp only [putAll, Act.put, List.setIfInBounds_toArray, List.set_cons_zero, List.set_cons_succ]; rfl)) (hJ3_4 (.slice Ao58 t266.length co58, v270) _ ⟨hHeld, (by (with_reducible repeat (first | apply Kd.R_alloc | apply Kd.R_drewN | apply Kd.R_drew)); exact Kd.R_mono HO268.out (fun _ hk => hk.2)), (by (with_reducible repeat (first | apply Kd.R_alloc | apply Kd.R_drewN | apply Kd.R_drew)); exact HO271.out), (by (with_reducible repeat (first | refine blk_drewN ?_ _ | refine blk_drew ?_ | refine blk_alloc ?_ _)); exact BK221.out), (by (with_reducible repeat (first | refine blk_drewN ?_ _ | refine blk_drew ?_ | refine blk_alloc ?_ _)); exact BK265.out), (by repeat (first | (with_reducible first | exact HB.out | apply below_alloc | apply pw_below_drewN | apply below_drew1 | refine below_set ?_ GE221.out | refine below_set ?_ GE265.out) | exact HB.out))⟩)
                                              · skip
                                                refine Kd.R_lit_step (Kd.int .u8) _ 5 ?hg (N := 65) ?hd (xs := ([(rd_T35 l0_6 x4_1).f2] : List Int)) (inner := [.int .u8 ((rd_T35 l0_6 x4_1).f2)]) (ok := fun _ => True) (okp := fun _ => True) ?hr ?hp (fun _ hk => hk) trivial (Below.refl _ _) (Nat.le_refl _) (by simp) ?_; (case hd => rfl); (case hg => rfl); (case hr => first | (go_simp; done) | (go_simp; rfl)); (case hp => exact (Reps.one (show Kd.M (Kd.int .u8) _ _ _ ((rd_T35 l0_6 x4_1).f2) [.int .u8 ((rd_T35 l0_6 x4_1).f2)] from rfl) (Reps.none _ _)))
                                                intro v279 w57 ho58 hb hg_ hnew_
                                                clear hg_ hnew_
                                                (first | rw [← Ny278.out] at ho58 | (simp only [Int.reduceToNat] at ho58; rw [← Ny278.out] at ho58))
                                                have n0_ := Aside0.mk (Kd.R_elder' (by (with_reducible repeat (first | apply Kd.R_alloc | apply Kd.R_drewN | apply Kd.R_drew)); exact HO_3.out) (Kd.R_base ho58) hb)
                                                have n1_ := Aside0.mk (Kd.R_elder' (by (with_reducible repeat (first | apply Kd.R_alloc | apply Kd.R_drewN | apply Kd.R_drew)); exact HO268.out) (Kd.R_base ho58) hb)
                                                have n2_ := Aside0.mk (Kd.R_lower (Kd.R_new' (Kd.R_new' ho58 (Kd.R_lt (by (with_reducible repeat (first | apply Kd.R_alloc | apply Kd.R_drewN | apply Kd.R_drew)); exact HO_3.out))) (Kd.R_lt (by (with_reducible repeat (first | apply Kd.R_alloc | apply Kd.R_drewN | apply Kd.R_drew)); exact HO268.out))) (below_size (by repeat (first | (with_reducible first | exact HB.out | apply below_alloc | apply pw_below_drewN | apply below_drew1 | refine below_set ?_ GE221.out | refine below_set ?_ GE265.out) | exact HB.out))))
                                                have n3_ := Aside0.mk (blk_below (g := gb221) (o := .cells #[.int .i64 a0_0, .int .i64 a0_1, .int .i64 a0_2, .int .i64 a0_3, .int .i64 a0_4, .slice A0_5 l0_5.length c0_5, .slice (some ad264) l0_6.length c0_6] 39 (0, 0)) (by (with_reducible repeat (first | refine blk_drewN ?_ _ | refine blk_drew ?_ | refine blk_alloc ?_ _)); exact BK221.out) hb)
                                                have n4_ := Aside0.mk (blk_below (g := gb265) (o := .cells #[.int .i64 ((rd_T35 l0_6 x4_1).f0), .int .u16 ((rd_T35 l0_6 x4_1).f1), .int .u8 ((rd_T35 l0_6 x4_1).f2)] 35 (0, 0)) (by (with_reducible repeat (first | refine blk_drewN ?_ _ | refine blk_drew ?_ | refine blk_alloc ?_ _)); exact BK265.out) hb)
                                                have n5_ := Aside0.mk (below_step (by repeat (first | (with_reducible first | exact HB.out | apply below_alloc | apply pw_below_drewN | apply below_drew1 | refine below_set ?_ GE221.out | refine below_set ?_ GE265.out) | exact HB.out)) hb)
                                                clear HO_3
                                                clear HO268
                                                clear BK221
                                                clear BK265
                                                clear HB
                                                have HO_3 := n0_
                                                have HO268 := n1_
                                                have HO280 := n2_
                                                have BK221 := n3_
                                                have BK265 := n4_
                                                have HB := n5_
                                                clear n0_ n1_ n2_ n3_ n4_ n5_
                                                clear hb ho58
                                                refine hK.out _ _ ⟨(blk_cell BK265.out 0).trans rfl, (blk_cell BK265.out 1).trans rfl, (blk_cell BK265.out 2).trans rfl⟩ (fun hHeld => ?_)
                                                clear hK K
                                                refine norm_ (a' := ?_) ?_ ?_
                                                rotate_left
                                                · show Act.put _ (some 65) _ = _
                                                  simp only [Act.put, List.setIfInBounds_toArray, List.set_cons_zero, List.set_cons_succ, i64_w, i32_w]
                                                  rfl
                                                exact norm_ (by first | (simp only [putAll, Act.put, List.setIfInBounds_toArray, List.set_cons_zero, List.set_cons_succ]; done) | (simp only [putAll, Act.put, List.setIfInBounds_toArray, List.set_cons_zero, List.set_cons_succ]; rfl)) (hJ3_12 ((.slice Ao58 t266.length co58), v279) _ ⟨hHeld, (by (with_reducible repeat (first | apply Kd.R_alloc | apply Kd.R_drewN | apply Kd.R_drew)); exact Kd.R_mono HO268.out (fun _ hk => ⟨hk.2, hk.1⟩)), (by (with_reducible repeat (first | apply Kd.R_alloc | apply Kd.R_drewN | apply Kd.R_drew)); exact Kd.R_mono HO280.out (fun _ hk => ⟨hk.2, hk.1.2⟩)), (by (with_reducible repeat (first | apply Kd.R_alloc | apply Kd.R_drewN | apply Kd.R_drew)); exact HO_3.out), (by (with_reducible repeat (first | refine blk_drewN ?_ _ | refine blk_drew ?_ | refine blk_alloc ?_ _)); exact BK221.out), (by (with_reducible repeat (first | refine blk_drewN ?_ _ | refine blk_drew ?_ | refine blk_alloc ?_ _)); exact BK265.out), (by repeat (first | (with_reducible first | exact HB.out | apply below_alloc | apply pw_below_drewN | apply below_drew1 | refine below_set ?_ GE221.out | refine below_set ?_ GE265.out) | exact HB.out))⟩)
                                          · skip
                                            rintro ⟨v267, v279⟩ w58 ⟨hS_, h0_, h1_, h2_, h3_, h4_, h5_⟩
                                            have n0_ : Aside0 (Kd.R (Kd.int .u8) 5 w58 w.heap.size (fun k_ => some k_ ≠ (v279 : Value).ownBlock ∧ some k_ ≠ (.slice Ao52 x3_1.length co52 : Value).ownBlock) v267 t266) := ⟨h0_⟩
                                            have n1_ : Aside0 (Kd.R (Kd.int .u8) 5 w58 w.heap.size (fun k_ => some k_ ≠ (v267 : Value).ownBlock ∧ some k_ ≠ (.slice Ao52 x3_1.length co52 : Value).ownBlock) v279 y278) := ⟨h1_⟩
                                            have n2_ : Aside0 (Kd.R (Kd.int .u8) 5 w58 w.heap.size (fun k_ => some k_ ≠ (v267 : Value).ownBlock ∧ some k_ ≠ (v279 : Value).ownBlock) (.slice Ao52 x3_1.length co52) x3_1) := ⟨h2_⟩
                                            have n3_ : Aside0 (w58.heap[gb221]? = some (.cells #[.int .i64 a0_0, .int .i64 a0_1, .int .i64 a0_2, .int .i64 a0_3, .int .i64 a0_4, .slice A0_5 l0_5.length c0_5, .slice (some ad264) l0_6.length c0_6] 39 (0, 0))) := ⟨h3_⟩
                                            have n4_ : Aside0 (w58.heap[gb265]? = some (.cells #[.int .i64 ((rd_T35 l0_6 x4_1).f0), .int .u16 ((rd_T35 l0_6 x4_1).f1), .int .u8 ((rd_T35 l0_6 x4_1).f2)] 35 (0, 0))) := ⟨h4_⟩
                                            have n5_ : Aside0 (Below w.heap.size w w58) := ⟨h5_⟩
                                            clear HO_3
                                            clear BK221
                                            clear BK265
                                            clear HB
                                            clear h0_ h1_ h2_ h3_ h4_ h5_
                                            have HO268 := n0_
                                            have HO280 := n1_
                                            have HO_3 := n2_
                                            have BK221 := n3_
                                            have BK265 := n4_
                                            have HB := n5_
                                            clear n0_ n1_ n2_ n3_ n4_ n5_
                                            have hHeld : w58.cell? ⟨gb265, 0, none⟩ = some (.int .i64 ((rd_T35 l0_6 x4_1).f0)) ∧ w58.cell? ⟨gb265, 1, none⟩ = some (.int .u16 ((rd_T35 l0_6 x4_1).f1)) ∧ w58.cell? ⟨gb265, 2, none⟩ = some (.int .u8 ((rd_T35 l0_6 x4_1).f2)) := hS_
                                            obtain ⟨Ao60, co60, eo60⟩ := Kd.R_slice HO268.out
                                            (first | subst eo60 | (injection eo60 with f1_ f2_ f3_; have f4_ := f1_.symm; have f5_ := f3_.symm; clear f1_ f2_ f3_; subst f4_; subst f5_))
                                            refine norm_ (a' := ?_) ?_ ?_
                                            rotate_left
                                            · simp only [putAll, Act.put, List.setIfInBounds_toArray, List.set_cons_zero, List.set_cons_succ]
                                              rfl
                                            refine one_ (i := 4) (N := some 57) #[true, true, true, true, true, true, true, true, false, false, true, true, true, false, false] rfl rfl (one_of HT_.out (by kernel_rfl)) (by decide) (fun K hK => ?_)
                                            refine Kd.R_append_rows_step (Kd.int .u8) (w0 := w) w.heap.size (by rfl) (.tmp 53) (.tmp 56) 24 5 (.int .u8 0) 1 rfl Tryd.underlying24 info5 rfl (by decide) (by omega) (.slice Ao52 x3_1.length co52) x3_1 t266 _ _ _ (fun k_ => some k_ ≠ (.slice Ao60 t266.length co60 : Value).ownBlock ∧ some k_ ≠ (v279 : Value).ownBlock) (fun _ => False) rfl rfl ?aO ?aR (fun _ _ h => h) (fun _ h => h.elim) ?aF ?aB ?aS ?aL ?_
                                            (case aR => repeat (first | exact (Kd.R_reads' HO268.out).2.2 | (with_reducible refine Kd.C_alloc ?_ _) | (with_reducible refine Kd.C_drewN ?_ _) | (with_reducible refine Kd.C_drew ?_)))
                                            (case aB => exact (by repeat (first | (with_reducible first | exact HB.out | apply below_alloc | apply pw_below_drewN | apply below_drew1 | refine below_set ?_ GE221.out | refine below_set ?_ GE265.out) | exact HB.out)))
                                            (case aF => exact (fun k_ hk => ⟨Kd.fresh' (Kd.R_lt (by (with_reducible repeat (first | apply Kd.R_alloc | apply Kd.R_drewN | apply Kd.R_drew)); exact HO268.out)) k_ hk, Kd.fresh' (Kd.R_lt (by (with_reducible repeat (first | apply Kd.R_alloc | apply Kd.R_drewN | apply Kd.R_drew)); exact HO280.out)) k_ hk⟩))
                                            (case aO => exact (by (with_reducible repeat (first | apply Kd.R_alloc | apply Kd.R_drewN | apply Kd.R_drew)); exact HO_3.out))
                                            (case aS => exact (below_size (by repeat (first | (with_reducible first | exact HB.out | apply below_alloc | apply pw_below_drewN | apply below_drew1 | refine below_set ?_ GE221.out | refine below_set ?_ GE265.out) | exact HB.out))))
                                            (case aL => have := LMc44.out; omega)
                                            intro v270 w59 ho hb hg hat
                                            rw [← Ny269.out] at ho
                                            have n0_ := Aside0.mk (blk_grown (g := gb221) (o := .cells #[.int .i64 a0_0, .int .i64 a0_1, .int .i64 a0_2, .int .i64 a0_3, .int .i64 a0_4, .slice A0_5 l0_5.length c0_5, .slice (some ad264) l0_6.length c0_6] 39 (0, 0)) (by (with_reducible repeat (first | refine blk_drewN ?_ _ | refine blk_drew ?_ | refine blk_alloc ?_ _)); exact BK221.out) hg (Kd.R_ne HO_3.out BK221.out (by decide)))
                                            have n1_ := Aside0.mk (blk_grown (g := gb265) (o := .cells #[.int .i64 ((rd_T35 l0_6 x4_1).f0), .int .u16 ((rd_T35 l0_6 x4_1).f1), .int .u8 ((rd_T35 l0_6 x4_1).f2)] 35 (0, 0)) (by (with_reducible repeat (first | refine blk_drewN ?_ _ | refine blk_drew ?_ | refine blk_alloc ?_ _)); exact BK265.out) hg (Kd.R_ne HO_3.out BK265.out (by decide)))
                                            have n2_ := Aside0.mk (Kd.R_after (ok := (fun k_ => some k_ ≠ (v279 : Value).ownBlock)) (by (with_reducible repeat (first | apply Kd.R_alloc | apply Kd.R_drewN | apply Kd.R_drew)); exact HO268.out) hg hat)
                                            have n3_ := Aside0.mk (Kd.R_after (ok := (fun k_ => some k_ ≠ (.slice Ao60 t266.length co60 : Value).ownBlock)) (by (with_reducible repeat (first | apply Kd.R_alloc | apply Kd.R_drewN | apply Kd.R_drew)); exact HO280.out) hg hat)
                                            have n4_ := Aside0.mk (hb)
                                            have n5_ := Aside0.mk (ho)
                                            clear BK221
                                            clear BK265
                                            clear HO268
                                            clear HO280
                                            clear HB
                                            clear HO_3
                                            have BK221 := n0_
                                            have BK265 := n1_
                                            have HO268 := n2_
                                            have HO280 := n3_
                                            have HB := n4_
                                            have HO271 := n5_
                                            clear n0_ n1_ n2_ n3_ n4_ n5_
                                            clear ho hb hg hat
                                            refine hK.out _ _ ⟨(blk_cell BK265.out 0).trans rfl, (blk_cell BK265.out 1).trans rfl, (blk_cell BK265.out 2).trans rfl⟩ (fun hHeld => ?_)
                                            clear hK K
                                            refine norm_ (a' := ?_) ?_ ?_
                                            rotate_left
                                            · show Act.put _ (some 57) _ = _
                                              simp only [Act.put, List.setIfInBounds_toArray, List.set_cons_zero, List.set_cons_succ, i64_w, i32_w]
                                              rfl
                                            exact norm_ (by first | (simp only [putAll, Act.put, List.setIfInBounds_toArray, List.set_cons_zero, List.set_cons_succ]; done) | (simp only [putAll, Act.put, List.setIfInBounds_toArray, List.set_cons_zero, List.set_cons_succ]; rfl)) (hJ3_4_12 (.slice Ao60 t266.length co60, v270, v279) _ ⟨hHeld, (by (with_reducible repeat (first | apply Kd.R_alloc | apply Kd.R_drewN | apply Kd.R_drew)); exact Kd.R_mono HO268.out (fun _ hk => ⟨hk.2, hk.1⟩)), (by (with_reducible repeat (first | apply Kd.R_alloc | apply Kd.R_drewN | apply Kd.R_drew)); exact HO271.out), (by (with_reducible repeat (first | apply Kd.R_alloc | apply Kd.R_drewN | apply Kd.R_drew)); exact HO280.out), (by (with_reducible repeat (first | refine blk_drewN ?_ _ | refine blk_drew ?_ | refine blk_alloc ?_ _)); exact BK221.out), (by (with_reducible repeat (first | refine blk_drewN ?_ _ | refine blk_drew ?_ | refine blk_alloc ?_ _)); exact BK265.out), (by repeat (first | (with_reducible first | exact HB.out | apply below_alloc | apply pw_below_drewN | apply below_drew1 | refine below_set ?_ GE221.out | refine below_set ?_ GE265.out) | exact HB.out))⟩)
                                        · skip
                                          rintro ⟨v267, v270⟩ w58 ⟨hS_, h0_, h1_, h2_, h3_, h4_⟩
                                          have n0_ : Aside0 (Kd.R (Kd.int .u8) 5 w58 w.heap.size (fun k_ => some k_ ≠ (v270 : Value).ownBlock) v267 t266) := ⟨h0_⟩
                                          have n1_ : Aside0 (Kd.R (Kd.int .u8) 5 w58 w.heap.size (fun k_ => some k_ ≠ (v267 : Value).ownBlock) v270 y269) := ⟨h1_⟩
                                          have n2_ : Aside0 (w58.heap[gb221]? = some (.cells #[.int .i64 a0_0, .int .i64 a0_1, .int .i64 a0_2, .int .i64 a0_3, .int .i64 a0_4, .slice A0_5 l0_5.length c0_5, .slice (some ad264) l0_6.length c0_6] 39 (0, 0))) := ⟨h2_⟩
                                          have n3_ : Aside0 (w58.heap[gb265]? = some (.cells #[.int .i64 ((rd_T35 l0_6 x4_1).f0), .int .u16 ((rd_T35 l0_6 x4_1).f1), .int .u8 ((rd_T35 l0_6 x4_1).f2)] 35 (0, 0))) := ⟨h3_⟩
                                          have n4_ : Aside0 (Below w.heap.size w w58) := ⟨h4_⟩
                                          clear HO_3
                                          clear BK221
                                          clear BK265
                                          clear HB
                                          clear h0_ h1_ h2_ h3_ h4_
                                          have HO268 := n0_
                                          have HO271 := n1_
                                          have BK221 := n2_
                                          have BK265 := n3_
                                          have HB := n4_
                                          clear n0_ n1_ n2_ n3_ n4_
                                          have hHeld : w58.cell? ⟨gb265, 0, none⟩ = some (.int .i64 ((rd_T35 l0_6 x4_1).f0)) ∧ w58.cell? ⟨gb265, 1, none⟩ = some (.int .u16 ((rd_T35 l0_6 x4_1).f1)) ∧ w58.cell? ⟨gb265, 2, none⟩ = some (.int .u8 ((rd_T35 l0_6 x4_1).f2)) := hS_
                                          refine norm_ (a' := ?_) ?_ ?_
                                          rotate_left
                                          · simp only [putAll, Act.put, List.setIfInBounds_toArray, List.set_cons_zero, List.set_cons_succ]
                                            rfl
                                          refine two_ (i := 8) (j := 12) (Ni := some 61) (Nj := some 65) #[true, true, true, true, true, true, true, true, true, false, true, true, false, false, false] #[true, true, true, true, true, true, true, true, false, false, true, true, true, false, false] rfl rfl rfl rfl (two_of HT_.out (by kernel_rfl)) (by decide) (by decide) (fun K hK => ?_) (fun K hK => ?_)
                                          · skip
                                            refine goes_ Tryd.func39 (by kernel_rfl) rfl #[.int .u64 (IntKind.u64.wrap ((rd_T35 l0_6 x4_1).f1)), .int .i64 2] (by rfl) rfl rfl (by (try simp only [List.map_toArray, List.map_cons, List.map_nil]); first | done | rfl | (simp only [List.length_drop, List.length_take]; rfl)) ?_
                                            with_reducible refine (wispref03_Low.calls k1 (IntKind.u64.wrap ((rd_T35 l0_6 x4_1).f1)) 2 t272 _ A45.out).mono ?_
                                            rintro e w59 ⟨v273, rfl, ho0, hb⟩
                                            refine ⟨_, rfl, ?_⟩
                                            have n0_ := Aside0.mk (Kd.R_elder' (by (with_reducible repeat (first | apply Kd.R_alloc | apply Kd.R_drewN | apply Kd.R_drew)); exact HO268.out) (Kd.R_base ho0) hb)
                                            have n1_ := Aside0.mk (Kd.R_elder' (by (with_reducible repeat (first | apply Kd.R_alloc | apply Kd.R_drewN | apply Kd.R_drew)); exact HO271.out) (Kd.R_base ho0) hb)
                                            have n2_ := Aside0.mk (Kd.R_lower (Kd.R_new' (Kd.R_new' ho0 (Kd.R_lt (by (with_reducible repeat (first | apply Kd.R_alloc | apply Kd.R_drewN | apply Kd.R_drew)); exact HO268.out))) (Kd.R_lt (by (with_reducible repeat (first | apply Kd.R_alloc | apply Kd.R_drewN | apply Kd.R_drew)); exact HO271.out))) (below_size (by repeat (first | (with_reducible first | exact HB.out | apply below_alloc | apply pw_below_drewN | apply below_drew1 | refine below_set ?_ GE221.out | refine below_set ?_ GE265.out) | exact HB.out))))
                                            have n3_ := Aside0.mk (blk_below (g := gb221) (o := .cells #[.int .i64 a0_0, .int .i64 a0_1, .int .i64 a0_2, .int .i64 a0_3, .int .i64 a0_4, .slice A0_5 l0_5.length c0_5, .slice (some ad264) l0_6.length c0_6] 39 (0, 0)) (by (with_reducible repeat (first | refine blk_drewN ?_ _ | refine blk_drew ?_ | refine blk_alloc ?_ _)); exact BK221.out) hb)
                                            have n4_ := Aside0.mk (blk_below (g := gb265) (o := .cells #[.int .i64 ((rd_T35 l0_6 x4_1).f0), .int .u16 ((rd_T35 l0_6 x4_1).f1), .int .u8 ((rd_T35 l0_6 x4_1).f2)] 35 (0, 0)) (by (with_reducible repeat (first | refine blk_drewN ?_ _ | refine blk_drew ?_ | refine blk_alloc ?_ _)); exact BK265.out) hb)
                                            have n5_ := Aside0.mk (below_step (by repeat (first | (with_reducible first | exact HB.out | apply below_alloc | apply pw_below_drewN | apply below_drew1 | refine below_set ?_ GE221.out | refine below_set ?_ GE265.out) | exact HB.out)) hb)
                                            clear HO268
                                            clear HO271
                                            clear BK221
                                            clear BK265
                                            clear HB
                                            have HO268 := n0_
                                            have HO271 := n1_
                                            have HO274 := n2_
                                            have BK221 := n3_
                                            have BK265 := n4_
                                            have HB := n5_
                                            clear n0_ n1_ n2_ n3_ n4_ n5_
                                            (try clear hb)
                                            (try clear hb2)
                                            (try clear hk)
                                            (try clear hi)
                                            (try clear ho0)
                                            refine hK.out _ _ ⟨(blk_cell BK265.out 0).trans rfl, (blk_cell BK265.out 1).trans rfl, (blk_cell BK265.out 2).trans rfl⟩ (fun hHeld => ?_)
                                            clear hK K
                                            refine norm_ (a' := ?_) ?_ ?_
                                            rotate_left
                                            · show Act.put _ (some 61) _ = _
                                              simp only [Act.put, List.setIfInBounds_toArray, List.set_cons_zero, List.set_cons_succ, i64_w, i32_w]
                                              rfl
                                            exact norm_ (by first | (simp only [putAll, Act.put, List.setIfInBounds_toArray, List.set_cons_zero, List.set_cons_succ]; done) | (simp only [putAll, Act.put, List.setIfInBounds_toArray, List.set_cons_zero, List.set_cons_succ]; rfl)) (hJ3_4_8 (v267, v270, v273) _ ⟨hHeld, (by (with_reducible repeat (first | apply Kd.R_alloc | apply Kd.R_drewN | apply Kd.R_drew)); exact HO268.out), (by (with_reducible repeat (first | apply Kd.R_alloc | apply Kd.R_drewN | apply Kd.R_drew)); exact HO271.out), (by (with_reducible repeat (first | apply Kd.R_alloc | apply Kd.R_drewN | apply Kd.R_drew)); exact Kd.R_mono HO274.out (fun _ hk => ⟨hk.1.2, hk.2⟩)), (by (with_reducible repeat (first | refine blk_drewN ?_ _ | refine blk_drew ?_ | refine blk_alloc ?_ _)); exact BK221.out), (by (with_reducible repeat (first | refine blk_drewN ?_ _ | refine blk_drew ?_ | refine blk_alloc ?_ _)); exact BK265.out), (by repeat (first | (with_reducible first | exact HB.out | apply below_alloc | apply pw_below_drewN | apply below_drew1 | refine below_set ?_ GE221.out | refine below_set ?_ GE265.out) | exact HB.out))⟩)
                                          · skip
                                            refine Kd.R_lit_step (Kd.int .u8) _ 5 ?hg (N := 65) ?hd (xs := ([(rd_T35 l0_6 x4_1).f2] : List Int)) (inner := [.int .u8 ((rd_T35 l0_6 x4_1).f2)]) (ok := fun _ => True) (okp := fun _ => True) ?hr ?hp (fun _ hk => hk) trivial (Below.refl _ _) (Nat.le_refl _) (by simp) ?_; (case hd => rfl); (case hg => rfl); (case hr => first | (go_simp; done) | (go_simp; rfl)); (case hp => exact (Reps.one (show Kd.M (Kd.int .u8) _ _ _ ((rd_T35 l0_6 x4_1).f2) [.int .u8 ((rd_T35 l0_6 x4_1).f2)] from rfl) (Reps.none _ _)))
                                            intro v279 w59 ho60 hb hg_ hnew_
                                            clear hg_ hnew_
                                            (first | rw [← Ny278.out] at ho60 | (simp only [Int.reduceToNat] at ho60; rw [← Ny278.out] at ho60))
                                            have n0_ := Aside0.mk (Kd.R_elder' (by (with_reducible repeat (first | apply Kd.R_alloc | apply Kd.R_drewN | apply Kd.R_drew)); exact HO268.out) (Kd.R_base ho60) hb)
                                            have n1_ := Aside0.mk (Kd.R_elder' (by (with_reducible repeat (first | apply Kd.R_alloc | apply Kd.R_drewN | apply Kd.R_drew)); exact HO271.out) (Kd.R_base ho60) hb)
                                            have n2_ := Aside0.mk (Kd.R_lower (Kd.R_new' (Kd.R_new' ho60 (Kd.R_lt (by (with_reducible repeat (first | apply Kd.R_alloc | apply Kd.R_drewN | apply Kd.R_drew)); exact HO268.out))) (Kd.R_lt (by (with_reducible repeat (first | apply Kd.R_alloc | apply Kd.R_drewN | apply Kd.R_drew)); exact HO271.out))) (below_size (by repeat (first | (with_reducible first | exact HB.out | apply below_alloc | apply pw_below_drewN | apply below_drew1 | refine below_set ?_ GE221.out | refine below_set ?_ GE265.out) | exact HB.out))))
                                            have n3_ := Aside0.mk (blk_below (g := gb221) (o := .cells #[.int .i64 a0_0, .int .i64 a0_1, .int .i64 a0_2, .int .i64 a0_3, .int .i64 a0_4, .slice A0_5 l0_5.length c0_5, .slice (some ad264) l0_6.length c0_6] 39 (0, 0)) (by (with_reducible repeat (first | refine blk_drewN ?_ _ | refine blk_drew ?_ | refine blk_alloc ?_ _)); exact BK221.out) hb)
                                            have n4_ := Aside0.mk (blk_below (g := gb265) (o := .cells #[.int .i64 ((rd_T35 l0_6 x4_1).f0), .int .u16 ((rd_T35 l0_6 x4_1).f1), .int .u8 ((rd_T35 l0_6 x4_1).f2)] 35 (0, 0)) (by (with_reducible repeat (first | refine blk_drewN ?_ _ | refine blk_drew ?_ | refine blk_alloc ?_ _)); exact BK265.out) hb)
                                            have n5_ := Aside0.mk (below_step (by repeat (first | (with_reducible first | exact HB.out | apply below_alloc | apply pw_below_drewN | apply below_drew1 | refine below_set ?_ GE221.out | refine below_set ?_ GE265.out) | exact HB.out)) hb)
                                            clear HO268
                                            clear HO271
                                            clear BK221
                                            clear BK265
                                            clear HB
                                            have HO268 := n0_
                                            have HO271 := n1_
                                            have HO280 := n2_
                                            have BK221 := n3_
                                            have BK265 := n4_
                                            have HB := n5_
                                            clear n0_ n1_ n2_ n3_ n4_ n5_
                                            clear hb ho60
                                            refine hK.out _ _ ⟨(blk_cell BK265.out 0).trans rfl, (blk_cell BK265.out 1).trans rfl, (blk_cell BK265.out 2).trans rfl⟩ (fun hHeld => ?_)
                                            clear hK K
                                            refine norm_ (a' := ?_) ?_ ?_
                                            rotate_left
                                            · show Act.put _ (some 65) _ = _
                                              simp only [Act.put, List.setIfInBounds_toArray, List.set_cons_zero, List.set_cons_succ, i64_w, i32_w]
                                              rfl
                                            exact norm_ (by first | (simp only [putAll, Act.put, List.setIfInBounds_toArray, List.set_cons_zero, List.set_cons_succ]; done) | (simp only [putAll, Act.put, List.setIfInBounds_toArray, List.set_cons_zero, List.set_cons_succ]; rfl)) (hJ3_4_12 (v267, v270, v279) _ ⟨hHeld, (by (with_reducible repeat (first | apply Kd.R_alloc | apply Kd.R_drewN | apply Kd.R_drew)); exact HO268.out), (by (with_reducible repeat (first | apply Kd.R_alloc | apply Kd.R_drewN | apply Kd.R_drew)); exact HO271.out), (by (with_reducible repeat (first | apply Kd.R_alloc | apply Kd.R_drewN | apply Kd.R_drew)); exact Kd.R_mono HO280.out (fun _ hk => ⟨hk.1.2, hk.2⟩)), (by (with_reducible repeat (first | refine blk_drewN ?_ _ | refine blk_drew ?_ | refine blk_alloc ?_ _)); exact BK221.out), (by (with_reducible repeat (first | refine blk_drewN ?_ _ | refine blk_drew ?_ | refine blk_alloc ?_ _)); exact BK265.out), (by repeat (first | (with_reducible first | exact HB.out | apply below_alloc | apply pw_below_drewN | apply below_drew1 | refine below_set ?_ GE221.out | refine below_set ?_ GE265.out) | exact HB.out))⟩)
                                      · skip
                                        rintro ⟨v267, v270, v279⟩ w60 ⟨hS_, h0_, h1_, h2_, h3_, h4_, h5_⟩
                                        have n0_ : Aside0 (Kd.R (Kd.int .u8) 5 w60 w.heap.size (fun k_ => some k_ ≠ (v270 : Value).ownBlock ∧ some k_ ≠ (v279 : Value).ownBlock) v267 t266) := ⟨h0_⟩
                                        have n1_ : Aside0 (Kd.R (Kd.int .u8) 5 w60 w.heap.size (fun k_ => some k_ ≠ (v267 : Value).ownBlock ∧ some k_ ≠ (v279 : Value).ownBlock) v270 y269) := ⟨h1_⟩
                                        have n2_ : Aside0 (Kd.R (Kd.int .u8) 5 w60 w.heap.size (fun k_ => some k_ ≠ (v267 : Value).ownBlock ∧ some k_ ≠ (v270 : Value).ownBlock) v279 y278) := ⟨h2_⟩
                                        have n3_ : Aside0 (w60.heap[gb221]? = some (.cells #[.int .i64 a0_0, .int .i64 a0_1, .int .i64 a0_2, .int .i64 a0_3, .int .i64 a0_4, .slice A0_5 l0_5.length c0_5, .slice (some ad264) l0_6.length c0_6] 39 (0, 0))) := ⟨h3_⟩
                                        have n4_ : Aside0 (w60.heap[gb265]? = some (.cells #[.int .i64 ((rd_T35 l0_6 x4_1).f0), .int .u16 ((rd_T35 l0_6 x4_1).f1), .int .u8 ((rd_T35 l0_6 x4_1).f2)] 35 (0, 0))) := ⟨h4_⟩
                                        have n5_ : Aside0 (Below w.heap.size w w60) := ⟨h5_⟩
                                        clear HO_3
                                        clear BK221
                                        clear BK265
                                        clear HB
                                        clear h0_ h1_ h2_ h3_ h4_ h5_
                                        have HO268 := n0_
                                        have HO271 := n1_
                                        have HO280 := n2_
                                        have BK221 := n3_
                                        have BK265 := n4_
                                        have HB := n5_
                                        clear n0_ n1_ n2_ n3_ n4_ n5_
                                        have hHeld : w60.cell? ⟨gb265, 0, none⟩ = some (.int .i64 ((rd_T35 l0_6 x4_1).f0)) ∧ w60.cell? ⟨gb265, 1, none⟩ = some (.int .u16 ((rd_T35 l0_6 x4_1).f1)) ∧ w60.cell? ⟨gb265, 2, none⟩ = some (.int .u8 ((rd_T35 l0_6 x4_1).f2)) := hS_
                                        refine norm_ (a' := ?_) ?_ ?_
                                        rotate_left
                                        · simp only [putAll, Act.put, List.setIfInBounds_toArray, List.set_cons_zero, List.set_cons_succ]
                                          rfl
                                        refine one_ (i := 8) (N := some 61) #[true, true, true, true, true, true, true, true, true, false, true, true, true, false, false] rfl rfl (one_of HT_.out (by kernel_rfl)) (by decide) (fun K hK => ?_)
                                        refine goes_ Tryd.func39 (by kernel_rfl) rfl #[.int .u64 (IntKind.u64.wrap ((rd_T35 l0_6 x4_1).f1)), .int .i64 2] (by rfl) rfl rfl (by (try simp only [List.map_toArray, List.map_cons, List.map_nil]); first | done | rfl | (simp only [List.length_drop, List.length_take]; rfl)) ?_
                                        with_reducible refine (wispref03_Low.calls k1 (IntKind.u64.wrap ((rd_T35 l0_6 x4_1).f1)) 2 t272 _ A45.out).mono ?_
                                        rintro e w61 ⟨v273, rfl, ho0, hb⟩
                                        refine ⟨_, rfl, ?_⟩
                                        have n0_ := Aside0.mk (Kd.R_elder' (by (with_reducible repeat (first | apply Kd.R_alloc | apply Kd.R_drewN | apply Kd.R_drew)); exact HO268.out) (Kd.R_base ho0) hb)
                                        have n1_ := Aside0.mk (Kd.R_elder' (by (with_reducible repeat (first | apply Kd.R_alloc | apply Kd.R_drewN | apply Kd.R_drew)); exact HO271.out) (Kd.R_base ho0) hb)
                                        have n2_ := Aside0.mk (Kd.R_elder' (by (with_reducible repeat (first | apply Kd.R_alloc | apply Kd.R_drewN | apply Kd.R_drew)); exact HO280.out) (Kd.R_base ho0) hb)
                                        have n3_ := Aside0.mk (Kd.R_lower (Kd.R_new' (Kd.R_new' (Kd.R_new' ho0 (Kd.R_lt (by (with_reducible repeat (first | apply Kd.R_alloc | apply Kd.R_drewN | apply Kd.R_drew)); exact HO268.out))) (Kd.R_lt (by (with_reducible repeat (first | apply Kd.R_alloc | apply Kd.R_drewN | apply Kd.R_drew)); exact HO271.out))) (Kd.R_lt (by (with_reducible repeat (first | apply Kd.R_alloc | apply Kd.R_drewN | apply Kd.R_drew)); exact HO280.out))) (below_size (by repeat (first | (with_reducible first | exact HB.out | apply below_alloc | apply pw_below_drewN | apply below_drew1 | refine below_set ?_ GE221.out | refine below_set ?_ GE265.out) | exact HB.out))))
                                        have n4_ := Aside0.mk (blk_below (g := gb221) (o := .cells #[.int .i64 a0_0, .int .i64 a0_1, .int .i64 a0_2, .int .i64 a0_3, .int .i64 a0_4, .slice A0_5 l0_5.length c0_5, .slice (some ad264) l0_6.length c0_6] 39 (0, 0)) (by (with_reducible repeat (first | refine blk_drewN ?_ _ | refine blk_drew ?_ | refine blk_alloc ?_ _)); exact BK221.out) hb)
                                        have n5_ := Aside0.mk (blk_below (g := gb265) (o := .cells #[.int .i64 ((rd_T35 l0_6 x4_1).f0), .int .u16 ((rd_T35 l0_6 x4_1).f1), .int .u8 ((rd_T35 l0_6 x4_1).f2)] 35 (0, 0)) (by (with_reducible repeat (first | refine blk_drewN ?_ _ | refine blk_drew ?_ | refine blk_alloc ?_ _)); exact BK265.out) hb)
                                        have n6_ := Aside0.mk (below_step (by repeat (first | (with_reducible first | exact HB.out | apply below_alloc | apply pw_below_drewN | apply below_drew1 | refine below_set ?_ GE221.out | refine below_set ?_ GE265.out) | exact HB.out)) hb)
                                        clear HO268
                                        clear HO271
                                        clear HO280
                                        clear BK221
                                        clear BK265
                                        clear HB
                                        have HO268 := n0_
                                        have HO271 := n1_
                                        have HO280 := n2_
                                        have HO274 := n3_
                                        have BK221 := n4_
                                        have BK265 := n5_
                                        have HB := n6_
                                        clear n0_ n1_ n2_ n3_ n4_ n5_ n6_
                                        (try clear hb)
                                        (try clear hb2)
                                        (try clear hk)
                                        (try clear hi)
                                        (try clear ho0)
                                        refine hK.out _ _ ⟨(blk_cell BK265.out 0).trans rfl, (blk_cell BK265.out 1).trans rfl, (blk_cell BK265.out 2).trans rfl⟩ (fun hHeld => ?_)
                                        clear hK K
                                        refine norm_ (a' := ?_) ?_ ?_
                                        rotate_left
                                        · show Act.put _ (some 61) _ = _
                                          simp only [Act.put, List.setIfInBounds_toArray, List.set_cons_zero, List.set_cons_succ, i64_w, i32_w]
                                          rfl
                                        exact norm_ (by first | (simp only [putAll, Act.put, List.setIfInBounds_toArray, List.set_cons_zero, List.set_cons_succ]; done) | (simp only [putAll, Act.put, List.setIfInBounds_toArray, List.set_cons_zero, List.set_cons_succ]; rfl)) (hJ3_4_8_12 (v267, v270, v273, v279) _ ⟨hHeld, (by (with_reducible repeat (first | apply Kd.R_alloc | apply Kd.R_drewN | apply Kd.R_drew)); exact Kd.R_mono HO268.out (fun _ hk => ⟨hk.1.1, ⟨hk.2, hk.1.2⟩⟩)), (by (with_reducible repeat (first | apply Kd.R_alloc | apply Kd.R_drewN | apply Kd.R_drew)); exact Kd.R_mono HO271.out (fun _ hk => ⟨hk.1.1, ⟨hk.2, hk.1.2⟩⟩)), (by (with_reducible repeat (first | apply Kd.R_alloc | apply Kd.R_drewN | apply Kd.R_drew)); exact Kd.R_mono HO274.out (fun _ hk => ⟨hk.1.1.2, ⟨hk.1.2, hk.2⟩⟩)), (by (with_reducible repeat (first | apply Kd.R_alloc | apply Kd.R_drewN | apply Kd.R_drew)); exact Kd.R_mono HO280.out (fun _ hk => ⟨hk.1.1, ⟨hk.1.2, hk.2⟩⟩)), (by (with_reducible repeat (first | refine blk_drewN ?_ _ | refine blk_drew ?_ | refine blk_alloc ?_ _)); exact BK221.out), (by (with_reducible repeat (first | refine blk_drewN ?_ _ | refine blk_drew ?_ | refine blk_alloc ?_ _)); exact BK265.out), (by repeat (first | (with_reducible first | exact HB.out | apply below_alloc | apply pw_below_drewN | apply below_drew1 | refine below_set ?_ GE221.out | refine below_set ?_ GE265.out) | exact HB.out))⟩)
                                    · skip
                                      rintro ⟨v267, v270, v273⟩ w59 ⟨hS_, h0_, h1_, h2_, h3_, h4_, h5_⟩
                                      have n0_ : Aside0 (Kd.R (Kd.int .u8) 5 w59 w.heap.size (fun k_ => some k_ ≠ (v270 : Value).ownBlock ∧ some k_ ≠ (v273 : Value).ownBlock) v267 t266) := ⟨h0_⟩
                                      have n1_ : Aside0 (Kd.R (Kd.int .u8) 5 w59 w.heap.size (fun k_ => some k_ ≠ (v267 : Value).ownBlock ∧ some k_ ≠ (v273 : Value).ownBlock) v270 y269) := ⟨h1_⟩
                                      have n2_ : Aside0 (Kd.R (Kd.int .u8) 5 w59 w.heap.size (fun k_ => some k_ ≠ (v267 : Value).ownBlock ∧ some k_ ≠ (v270 : Value).ownBlock) v273 t272) := ⟨h2_⟩
                                      have n3_ : Aside0 (w59.heap[gb221]? = some (.cells #[.int .i64 a0_0, .int .i64 a0_1, .int .i64 a0_2, .int .i64 a0_3, .int .i64 a0_4, .slice A0_5 l0_5.length c0_5, .slice (some ad264) l0_6.length c0_6] 39 (0, 0))) := ⟨h3_⟩
                                      have n4_ : Aside0 (w59.heap[gb265]? = some (.cells #[.int .i64 ((rd_T35 l0_6 x4_1).f0), .int .u16 ((rd_T35 l0_6 x4_1).f1), .int .u8 ((rd_T35 l0_6 x4_1).f2)] 35 (0, 0))) := ⟨h4_⟩
                                      have n5_ : Aside0 (Below w.heap.size w w59) := ⟨h5_⟩
                                      clear HO_3
                                      clear BK221
                                      clear BK265
                                      clear HB
                                      clear h0_ h1_ h2_ h3_ h4_ h5_
                                      have HO268 := n0_
                                      have HO271 := n1_
                                      have HO274 := n2_
                                      have BK221 := n3_
                                      have BK265 := n4_
                                      have HB := n5_
                                      clear n0_ n1_ n2_ n3_ n4_ n5_
                                      have hHeld : w59.cell? ⟨gb265, 0, none⟩ = some (.int .i64 ((rd_T35 l0_6 x4_1).f0)) ∧ w59.cell? ⟨gb265, 1, none⟩ = some (.int .u16 ((rd_T35 l0_6 x4_1).f1)) ∧ w59.cell? ⟨gb265, 2, none⟩ = some (.int .u8 ((rd_T35 l0_6 x4_1).f2)) := hS_
                                      obtain ⟨Ao61, co61, eo61⟩ := Kd.R_slice HO274.out
                                      (first | subst eo61 | (injection eo61 with f1_ f2_ f3_; have f4_ := f1_.symm; have f5_ := f3_.symm; clear f1_ f2_ f3_; subst f4_; subst f5_))
                                      refine norm_ (a' := ?_) ?_ ?_
                                      rotate_left
                                      · simp only [putAll, Act.put, List.setIfInBounds_toArray, List.set_cons_zero, List.set_cons_succ]
                                        rfl
                                      refine two_ (i := 9) (j := 12) (Ni := some 62) (Nj := some 65) #[true, true, true, true, true, true, true, true, true, true, true, true, false, false, false] #[true, true, true, true, true, true, true, true, true, false, true, true, true, false, false] rfl rfl rfl rfl (two_of HT_.out (by kernel_rfl)) (by decide) (by decide) (fun K hK => ?_) (fun K hK => ?_)
                                      · skip
                                        refine Kd.R_append_rows_step (Kd.int .u8) (w0 := w) w.heap.size (by rfl) (.tmp 57) (.tmp 61) 24 5 (.int .u8 0) 1 rfl Tryd.underlying24 info5 rfl (by decide) (by omega) v270 y269 t272 _ _ _ (fun k_ => some k_ ≠ (v267 : Value).ownBlock ∧ some k_ ≠ (.slice Ao61 t272.length co61 : Value).ownBlock) (fun _ => False) rfl rfl ?aO ?aR (fun _ _ h => h) (fun _ h => h.elim) ?aF ?aB ?aS ?aL ?_
                                        (case aR => repeat (first | exact (Kd.R_reads' HO274.out).2.2 | (with_reducible refine Kd.C_alloc ?_ _) | (with_reducible refine Kd.C_drewN ?_ _) | (with_reducible refine Kd.C_drew ?_)))
                                        (case aB => exact (by repeat (first | (with_reducible first | exact HB.out | apply below_alloc | apply pw_below_drewN | apply below_drew1 | refine below_set ?_ GE221.out | refine below_set ?_ GE265.out) | exact HB.out)))
                                        (case aF => exact (fun k_ hk => ⟨Kd.fresh' (Kd.R_lt (by (with_reducible repeat (first | apply Kd.R_alloc | apply Kd.R_drewN | apply Kd.R_drew)); exact HO268.out)) k_ hk, Kd.fresh' (Kd.R_lt (by (with_reducible repeat (first | apply Kd.R_alloc | apply Kd.R_drewN | apply Kd.R_drew)); exact HO274.out)) k_ hk⟩))
                                        (case aO => exact (by (with_reducible repeat (first | apply Kd.R_alloc | apply Kd.R_drewN | apply Kd.R_drew)); exact HO271.out))
                                        (case aS => exact (below_size (by repeat (first | (with_reducible first | exact HB.out | apply below_alloc | apply pw_below_drewN | apply below_drew1 | refine below_set ?_ GE221.out | refine below_set ?_ GE265.out) | exact HB.out))))
                                        (case aL => have := LMc46.out; omega)
                                        intro v276 w60 ho hb hg hat
                                        rw [← Ny275.out] at ho
                                        have n0_ := Aside0.mk (blk_grown (g := gb221) (o := .cells #[.int .i64 a0_0, .int .i64 a0_1, .int .i64 a0_2, .int .i64 a0_3, .int .i64 a0_4, .slice A0_5 l0_5.length c0_5, .slice (some ad264) l0_6.length c0_6] 39 (0, 0)) (by (with_reducible repeat (first | refine blk_drewN ?_ _ | refine blk_drew ?_ | refine blk_alloc ?_ _)); exact BK221.out) hg (Kd.R_ne HO271.out BK221.out (by decide)))
                                        have n1_ := Aside0.mk (blk_grown (g := gb265) (o := .cells #[.int .i64 ((rd_T35 l0_6 x4_1).f0), .int .u16 ((rd_T35 l0_6 x4_1).f1), .int .u8 ((rd_T35 l0_6 x4_1).f2)] 35 (0, 0)) (by (with_reducible repeat (first | refine blk_drewN ?_ _ | refine blk_drew ?_ | refine blk_alloc ?_ _)); exact BK265.out) hg (Kd.R_ne HO271.out BK265.out (by decide)))
                                        have n2_ := Aside0.mk (Kd.R_after (ok := (fun k_ => some k_ ≠ (.slice Ao61 t272.length co61 : Value).ownBlock)) (by (with_reducible repeat (first | apply Kd.R_alloc | apply Kd.R_drewN | apply Kd.R_drew)); exact Kd.R_mono HO268.out (fun _ hk => ⟨hk.2, hk.1⟩)) hg hat)
                                        have n3_ := Aside0.mk (Kd.R_after (ok := (fun k_ => some k_ ≠ (v267 : Value).ownBlock)) (by (with_reducible repeat (first | apply Kd.R_alloc | apply Kd.R_drewN | apply Kd.R_drew)); exact HO274.out) hg hat)
                                        have n4_ := Aside0.mk (hb)
                                        have n5_ := Aside0.mk (ho)
                                        clear BK221
                                        clear BK265
                                        clear HO268
                                        clear HO274
                                        clear HB
                                        clear HO271
                                        have BK221 := n0_
                                        have BK265 := n1_
                                        have HO268 := n2_
                                        have HO274 := n3_
                                        have HB := n4_
                                        have HO277 := n5_
                                        clear n0_ n1_ n2_ n3_ n4_ n5_
                                        clear ho hb hg hat
                                        refine hK.out _ _ ⟨(blk_cell BK265.out 0).trans rfl, (blk_cell BK265.out 1).trans rfl, (blk_cell BK265.out 2).trans rfl⟩ (fun hHeld => ?_)
                                        clear hK K
                                        refine norm_ (a' := ?_) ?_ ?_
                                        rotate_left
                                        · show Act.put _ (some 62) _ = _
                                          simp only [Act.put, List.setIfInBounds_toArray, List.set_cons_zero, List.set_cons_succ, i64_w, i32_w]
                                          rfl
                                        exact norm_ (by first | (simp only [putAll, Act.put, List.setIfInBounds_toArray, List.set_cons_zero, List.set_cons_succ]; done) | (simp only [putAll, Act.put, List.setIfInBounds_toArray, List.set_cons_zero, List.set_cons_succ]; rfl)) (hJ3_4_8_9 (v267, v270, .slice Ao61 t272.length co61, v276) _ ⟨hHeld, (by (with_reducible repeat (first | apply Kd.R_alloc | apply Kd.R_drewN | apply Kd.R_drew)); exact HO268.out), (by (with_reducible repeat (first | apply Kd.R_alloc | apply Kd.R_drewN | apply Kd.R_drew)); exact HO274.out), (by (with_reducible repeat (first | apply Kd.R_alloc | apply Kd.R_drewN | apply Kd.R_drew)); exact HO277.out), (by (with_reducible repeat (first | refine blk_drewN ?_ _ | refine blk_drew ?_ | refine blk_alloc ?_ _)); exact BK221.out), (by (with_reducible repeat (first | refine blk_drewN ?_ _ | refine blk_drew ?_ | refine blk_alloc ?_ _)); exact BK265.out), (by repeat (first | (with_reducible first | exact HB.out | apply below_alloc | apply pw_below_drewN | apply below_drew1 | refine below_set ?_ GE221.out | refine below_set ?_ GE265.out) | exact HB.out))⟩)
                                      · skip
                                        refine Kd.R_lit_step (Kd.int .u8) _ 5 ?hg (N := 65) ?hd (xs := ([(rd_T35 l0_6 x4_1).f2] : List Int)) (inner := [.int .u8 ((rd_T35 l0_6 x4_1).f2)]) (ok := fun _ => True) (okp := fun _ => True) ?hr ?hp (fun _ hk => hk) trivial (Below.refl _ _) (Nat.le_refl _) (by simp) ?_; (case hd => rfl); (case hg => rfl); (case hr => first | (go_simp; done) | (go_simp; rfl)); (case hp => exact (Reps.one (show Kd.M (Kd.int .u8) _ _ _ ((rd_T35 l0_6 x4_1).f2) [.int .u8 ((rd_T35 l0_6 x4_1).f2)] from rfl) (Reps.none _ _)))
                                        intro v279 w60 ho61 hb hg_ hnew_
                                        clear hg_ hnew_
                                        (first | rw [← Ny278.out] at ho61 | (simp only [Int.reduceToNat] at ho61; rw [← Ny278.out] at ho61))
                                        have n0_ := Aside0.mk (Kd.R_elder' (by (with_reducible repeat (first | apply Kd.R_alloc | apply Kd.R_drewN | apply Kd.R_drew)); exact HO268.out) (Kd.R_base ho61) hb)
                                        have n1_ := Aside0.mk (Kd.R_elder' (by (with_reducible repeat (first | apply Kd.R_alloc | apply Kd.R_drewN | apply Kd.R_drew)); exact HO271.out) (Kd.R_base ho61) hb)
                                        have n2_ := Aside0.mk (Kd.R_elder' (by (with_reducible repeat (first | apply Kd.R_alloc | apply Kd.R_drewN | apply Kd.R_drew)); exact HO274.out) (Kd.R_base ho61) hb)
                                        have n3_ := Aside0.mk (Kd.R_lower (Kd.R_new' (Kd.R_new' (Kd.R_new' ho61 (Kd.R_lt (by (with_reducible repeat (first | apply Kd.R_alloc | apply Kd.R_drewN | apply Kd.R_drew)); exact HO268.out))) (Kd.R_lt (by (with_reducible repeat (first | apply Kd.R_alloc | apply Kd.R_drewN | apply Kd.R_drew)); exact HO271.out))) (Kd.R_lt (by (with_reducible repeat (first | apply Kd.R_alloc | apply Kd.R_drewN | apply Kd.R_drew)); exact HO274.out))) (below_size (by repeat (first | (with_reducible first | exact HB.out | apply below_alloc | apply pw_below_drewN | apply below_drew1 | refine below_set ?_ GE221.out | refine below_set ?_ GE265.out) | exact HB.out))))
                                        have n4_ := Aside0.mk (blk_below (g := gb221) (o := .cells #[.int .i64 a0_0, .int .i64 a0_1, .int .i64 a0_2, .int .i64 a0_3, .int .i64 a0_4, .slice A0_5 l0_5.length c0_5, .slice (some ad264) l0_6.length c0_6] 39 (0, 0)) (by (with_reducible repeat (first | refine blk_drewN ?_ _ | refine blk_drew ?_ | refine blk_alloc ?_ _)); exact BK221.out) hb)
                                        have n5_ := Aside0.mk (blk_below (g := gb265) (o := .cells #[.int .i64 ((rd_T35 l0_6 x4_1).f0), .int .u16 ((rd_T35 l0_6 x4_1).f1), .int .u8 ((rd_T35 l0_6 x4_1).f2)] 35 (0, 0)) (by (with_reducible repeat (first | refine blk_drewN ?_ _ | refine blk_drew ?_ | refine blk_alloc ?_ _)); exact BK265.out) hb)
                                        have n6_ := Aside0.mk (below_step (by repeat (first | (with_reducible first | exact HB.out | apply below_alloc | apply pw_below_drewN | apply below_drew1 | refine below_set ?_ GE221.out | refine below_set ?_ GE265.out) | exact HB.out)) hb)
                                        clear HO268
                                        clear HO271
                                        clear HO274
                                        clear BK221
                                        clear BK265
                                        clear HB
                                        have HO268 := n0_
                                        have HO271 := n1_
                                        have HO274 := n2_
                                        have HO280 := n3_
                                        have BK221 := n4_
                                        have BK265 := n5_
                                        have HB := n6_
                                        clear n0_ n1_ n2_ n3_ n4_ n5_ n6_
                                        clear hb ho61
                                        refine hK.out _ _ ⟨(blk_cell BK265.out 0).trans rfl, (blk_cell BK265.out 1).trans rfl, (blk_cell BK265.out 2).trans rfl⟩ (fun hHeld => ?_)
                                        clear hK K
                                        refine norm_ (a' := ?_) ?_ ?_
                                        rotate_left
                                        · show Act.put _ (some 65) _ = _
                                          simp only [Act.put, List.setIfInBounds_toArray, List.set_cons_zero, List.set_cons_succ, i64_w, i32_w]
                                          rfl
                                        exact norm_ (by first | (simp only [putAll, Act.put, List.setIfInBounds_toArray, List.set_cons_zero, List.set_cons_succ]; done) | (simp only [putAll, Act.put, List.setIfInBounds_toArray, List.set_cons_zero, List.set_cons_succ]; rfl)) (hJ3_4_8_12 (v267, v270, (.slice Ao61 t272.length co61), v279) _ ⟨hHeld, (by (with_reducible repeat (first | apply Kd.R_alloc | apply Kd.R_drewN | apply Kd.R_drew)); exact Kd.R_mono HO268.out (fun _ hk => ⟨hk.1.1, ⟨hk.1.2, hk.2⟩⟩)), (by (with_reducible repeat (first | apply Kd.R_alloc | apply Kd.R_drewN | apply Kd.R_drew)); exact Kd.R_mono HO271.out (fun _ hk => ⟨hk.1.1, ⟨hk.1.2, hk.2⟩⟩)), (by (with_reducible repeat (first | apply Kd.R_alloc | apply Kd.R_drewN | apply Kd.R_drew)); exact Kd.R_mono HO274.out (fun _ hk => ⟨hk.1.1, ⟨hk.1.2, hk.2⟩⟩)), (by (with_reducible repeat (first | apply Kd.R_alloc | apply Kd.R_drewN | apply Kd.R_drew)); exact Kd.R_mono HO280.out (fun _ hk => ⟨hk.1.1.2, ⟨hk.1.2, hk.2⟩⟩)), (by (with_reducible repeat (first | refine blk_drewN ?_ _ | refine blk_drew ?_ | refine blk_alloc ?_ _)); exact BK221.out), (by (with_reducible repeat (first | refine blk_drewN ?_ _ | refine blk_drew ?_ | refine blk_alloc ?_ _)); exact BK265.out), (by repeat (first | (with_reducible first | exact HB.out | apply below_alloc | apply pw_below_drewN | apply below_drew1 | refine below_set ?_ GE221.out | refine below_set ?_ GE265.out) | exact HB.out))⟩)
                                  · skip
                                    rintro ⟨v267, v270, v273, v279⟩ w61 ⟨hS_, h0_, h1_, h2_, h3_, h4_, h5_, h6_⟩
                                    have n0_ : Aside0 (Kd.R (Kd.int .u8) 5 w61 w.heap.size (fun k_ => some k_ ≠ (v270 : Value).ownBlock ∧ some k_ ≠ (v273 : Value).ownBlock ∧ some k_ ≠ (v279 : Value).ownBlock) v267 t266) := ⟨h0_⟩
                                    have n1_ : Aside0 (Kd.R (Kd.int .u8) 5 w61 w.heap.size (fun k_ => some k_ ≠ (v267 : Value).ownBlock ∧ some k_ ≠ (v273 : Value).ownBlock ∧ some k_ ≠ (v279 : Value).ownBlock) v270 y269) := ⟨h1_⟩
                                    have n2_ : Aside0 (Kd.R (Kd.int .u8) 5 w61 w.heap.size (fun k_ => some k_ ≠ (v267 : Value).ownBlock ∧ some k_ ≠ (v270 : Value).ownBlock ∧ some k_ ≠ (v279 : Value).ownBlock) v273 t272) := ⟨h2_⟩
                                    have n3_ : Aside0 (Kd.R (Kd.int .u8) 5 w61 w.heap.size (fun k_ => some k_ ≠ (v267 : Value).ownBlock ∧ some k_ ≠ (v270 : Value).ownBlock ∧ some k_ ≠ (v273 : Value).ownBlock) v279 y278) := ⟨h3_⟩
                                    have n4_ : Aside0 (w61.heap[gb221]? = some (.cells #[.int .i64 a0_0, .int .i64 a0_1, .int .i64 a0_2, .int .i64 a0_3, .int .i64 a0_4, .slice A0_5 l0_5.length c0_5, .slice (some ad264) l0_6.length c0_6] 39 (0, 0))) := ⟨h4_⟩
                                    have n5_ : Aside0 (w61.heap[gb265]? = some (.cells #[.int .i64 ((rd_T35 l0_6 x4_1).f0), .int .u16 ((rd_T35 l0_6 x4_1).f1), .int .u8 ((rd_T35 l0_6 x4_1).f2)] 35 (0, 0))) := ⟨h5_⟩
                                    have n6_ : Aside0 (Below w.heap.size w w61) := ⟨h6_⟩
                                    clear HO_3
                                    clear BK221
                                    clear BK265
                                    clear HB
                                    clear h0_ h1_ h2_ h3_ h4_ h5_ h6_
                                    have HO268 := n0_
                                    have HO271 := n1_
                                    have HO274 := n2_
                                    have HO280 := n3_
                                    have BK221 := n4_
                                    have BK265 := n5_
                                    have HB := n6_
                                    clear n0_ n1_ n2_ n3_ n4_ n5_ n6_
                                    have hHeld : w61.cell? ⟨gb265, 0, none⟩ = some (.int .i64 ((rd_T35 l0_6 x4_1).f0)) ∧ w61.cell? ⟨gb265, 1, none⟩ = some (.int .u16 ((rd_T35 l0_6 x4_1).f1)) ∧ w61.cell? ⟨gb265, 2, none⟩ = some (.int .u8 ((rd_T35 l0_6 x4_1).f2)) := hS_
                                    obtain ⟨Ao63, co63, eo63⟩ := Kd.R_slice HO274.out
                                    (first | subst eo63 | (injection eo63 with f1_ f2_ f3_; have f4_ := f1_.symm; have f5_ := f3_.symm; clear f1_ f2_ f3_; subst f4_; subst f5_))
                                    refine norm_ (a' := ?_) ?_ ?_
                                    rotate_left
                                    · simp only [putAll, Act.put, List.setIfInBounds_toArray, List.set_cons_zero, List.set_cons_succ]
                                      rfl
                                    refine one_ (i := 9) (N := some 62) #[true, true, true, true, true, true, true, true, true, true, true, true, true, false, false] rfl rfl (one_of HT_.out (by kernel_rfl)) (by decide) (fun K hK => ?_)
                                    refine Kd.R_append_rows_step (Kd.int .u8) (w0 := w) w.heap.size (by rfl) (.tmp 57) (.tmp 61) 24 5 (.int .u8 0) 1 rfl Tryd.underlying24 info5 rfl (by decide) (by omega) v270 y269 t272 _ _ _ (fun k_ => some k_ ≠ (v267 : Value).ownBlock ∧ some k_ ≠ (.slice Ao63 t272.length co63 : Value).ownBlock ∧ some k_ ≠ (v279 : Value).ownBlock) (fun _ => False) rfl rfl ?aO ?aR (fun _ _ h => h) (fun _ h => h.elim) ?aF ?aB ?aS ?aL ?_
                                    (case aR => repeat (first | exact (Kd.R_reads' HO274.out).2.2 | (with_reducible refine Kd.C_alloc ?_ _) | (with_reducible refine Kd.C_drewN ?_ _) | (with_reducible refine Kd.C_drew ?_)))
                                    (case aB => exact (by repeat (first | (with_reducible first | exact HB.out | apply below_alloc | apply pw_below_drewN | apply below_drew1 | refine below_set ?_ GE221.out | refine below_set ?_ GE265.out) | exact HB.out)))
                                    (case aF => exact (fun k_ hk => ⟨Kd.fresh' (Kd.R_lt (by (with_reducible repeat (first | apply Kd.R_alloc | apply Kd.R_drewN | apply Kd.R_drew)); exact HO268.out)) k_ hk, Kd.fresh' (Kd.R_lt (by (with_reducible repeat (first | apply Kd.R_alloc | apply Kd.R_drewN | apply Kd.R_drew)); exact HO274.out)) k_ hk, Kd.fresh' (Kd.R_lt (by (with_reducible repeat (first | apply Kd.R_alloc | apply Kd.R_drewN | apply Kd.R_drew)); exact HO280.out)) k_ hk⟩))
                                    (case aO => exact (by (with_reducible repeat (first | apply Kd.R_alloc | apply Kd.R_drewN | apply Kd.R_drew)); exact HO271.out))
                                    (case aS => exact (below_size (by repeat (first | (with_reducible first | exact HB.out | apply below_alloc | apply pw_below_drewN | apply below_drew1 | refine below_set ?_ GE221.out | refine below_set ?_ GE265.out) | exact HB.out))))
                                    (case aL => have := LMc46.out; omega)
                                    intro v276 w62 ho hb hg hat
                                    rw [← Ny275.out] at ho
                                    have n0_ := Aside0.mk (blk_grown (g := gb221) (o := .cells #[.int .i64 a0_0, .int .i64 a0_1, .int .i64 a0_2, .int .i64 a0_3, .int .i64 a0_4, .slice A0_5 l0_5.length c0_5, .slice (some ad264) l0_6.length c0_6] 39 (0, 0)) (by (with_reducible repeat (first | refine blk_drewN ?_ _ | refine blk_drew ?_ | refine blk_alloc ?_ _)); exact BK221.out) hg (Kd.R_ne HO271.out BK221.out (by decide)))
                                    have n1_ := Aside0.mk (blk_grown (g := gb265) (o := .cells #[.int .i64 ((rd_T35 l0_6 x4_1).f0), .int .u16 ((rd_T35 l0_6 x4_1).f1), .int .u8 ((rd_T35 l0_6 x4_1).f2)] 35 (0, 0)) (by (with_reducible repeat (first | refine blk_drewN ?_ _ | refine blk_drew ?_ | refine blk_alloc ?_ _)); exact BK265.out) hg (Kd.R_ne HO271.out BK265.out (by decide)))
                                    have n2_ := Aside0.mk (Kd.R_after (ok := (fun k_ => some k_ ≠ (.slice Ao63 t272.length co63 : Value).ownBlock ∧ some k_ ≠ (v279 : Value).ownBlock)) (by (with_reducible repeat (first | apply Kd.R_alloc | apply Kd.R_drewN | apply Kd.R_drew)); exact Kd.R_mono HO268.out (fun _ hk => ⟨⟨hk.2.1, hk.2.2⟩, hk.1⟩)) hg hat)
                                    have n3_ := Aside0.mk (Kd.R_after (ok := (fun k_ => some k_ ≠ (v267 : Value).ownBlock ∧ some k_ ≠ (v279 : Value).ownBlock)) (by (with_reducible repeat (first | apply Kd.R_alloc | apply Kd.R_drewN | apply Kd.R_drew)); exact Kd.R_mono HO274.out (fun _ hk => ⟨⟨hk.1, hk.2.2⟩, hk.2.1⟩)) hg hat)
                                    have n4_ := Aside0.mk (Kd.R_after (ok := (fun k_ => some k_ ≠ (v267 : Value).ownBlock ∧ some k_ ≠ (.slice Ao63 t272.length co63 : Value).ownBlock)) (by (with_reducible repeat (first | apply Kd.R_alloc | apply Kd.R_drewN | apply Kd.R_drew)); exact Kd.R_mono HO280.out (fun _ hk => ⟨⟨hk.1, hk.2.2⟩, hk.2.1⟩)) hg hat)
                                    have n5_ := Aside0.mk (hb)
                                    have n6_ := Aside0.mk (ho)
                                    clear BK221
                                    clear BK265
                                    clear HO268
                                    clear HO274
                                    clear HO280
                                    clear HB
                                    clear HO271
                                    have BK221 := n0_
                                    have BK265 := n1_
                                    have HO268 := n2_
                                    have HO274 := n3_
                                    have HO280 := n4_
                                    have HB := n5_
                                    have HO277 := n6_
                                    clear n0_ n1_ n2_ n3_ n4_ n5_ n6_
                                    clear ho hb hg hat
                                    refine hK.out _ _ ⟨(blk_cell BK265.out 0).trans rfl, (blk_cell BK265.out 1).trans rfl, (blk_cell BK265.out 2).trans rfl⟩ (fun hHeld => ?_)
                                    clear hK K
                                    refine norm_ (a' := ?_) ?_ ?_
                                    rotate_left
                                    · show Act.put _ (some 62) _ = _
                                      simp only [Act.put, List.setIfInBounds_toArray, List.set_cons_zero, List.set_cons_succ, i64_w, i32_w]
                                      rfl
                                    exact norm_ (by first | (simp only [putAll, Act.put, List.setIfInBounds_toArray, List.set_cons_zero, List.set_cons_succ]; done) | (simp only [putAll, Act.put, List.setIfInBounds_toArray, List.set_cons_zero, List.set_cons_succ]; rfl)) (hJ3_4_8_9_12 (v267, v270, .slice Ao63 t272.length co63, v276, v279) _ ⟨hHeld, (by (with_reducible repeat (first | apply Kd.R_alloc | apply Kd.R_drewN | apply Kd.R_drew)); exact Kd.R_mono HO268.out (fun _ hk => ⟨hk.1.1, ⟨hk.2, hk.1.2⟩⟩)), (by (with_reducible repeat (first | apply Kd.R_alloc | apply Kd.R_drewN | apply Kd.R_drew)); exact Kd.R_mono HO274.out (fun _ hk => ⟨hk.1.1, ⟨hk.2, hk.1.2⟩⟩)), (by (with_reducible repeat (first | apply Kd.R_alloc | apply Kd.R_drewN | apply Kd.R_drew)); exact HO277.out), (by (with_reducible repeat (first | apply Kd.R_alloc | apply Kd.R_drewN | apply Kd.R_drew)); exact Kd.R_mono HO280.out (fun _ hk => ⟨hk.1.1, ⟨hk.1.2, hk.2⟩⟩)), (by (with_reducible repeat (first | refine blk_drewN ?_ _ | refine blk_drew ?_ | refine blk_alloc ?_ _)); exact BK221.out), (by (with_reducible repeat (first | refine blk_drewN ?_ _ | refine blk_drew ?_ | refine blk_alloc ?_ _)); exact BK265.out), (by repeat (first | (with_reducible first | exact HB.out | apply below_alloc | apply pw_below_drewN | apply below_drew1 | refine below_set ?_ GE221.out | refine below_set ?_ GE265.out) | exact HB.out))⟩)
                                · skip
                                  rintro ⟨v267, v270, v273, v276⟩ w61 ⟨hS_, h0_, h1_, h2_, h3_, h4_, h5_⟩
                                  have n0_ : Aside0 (Kd.R (Kd.int .u8) 5 w61 w.heap.size (fun k_ => some k_ ≠ (v273 : Value).ownBlock ∧ some k_ ≠ (v276 : Value).ownBlock) v267 t266) := ⟨h0_⟩
                                  have n1_ : Aside0 (Kd.R (Kd.int .u8) 5 w61 w.heap.size (fun k_ => some k_ ≠ (v267 : Value).ownBlock ∧ some k_ ≠ (v276 : Value).ownBlock) v273 t272) := ⟨h1_⟩
                                  have n2_ : Aside0 (Kd.R (Kd.int .u8) 5 w61 w.heap.size (fun k_ => some k_ ≠ (v267 : Value).ownBlock ∧ some k_ ≠ (v273 : Value).ownBlock) v276 y275) := ⟨h2_⟩
                                  have n3_ : Aside0 (w61.heap[gb221]? = some (.cells #[.int .i64 a0_0, .int .i64 a0_1, .int .i64 a0_2, .int .i64 a0_3, .int .i64 a0_4, .slice A0_5 l0_5.length c0_5, .slice (some ad264) l0_6.length c0_6] 39 (0, 0))) := ⟨h3_⟩
                                  have n4_ : Aside0 (w61.heap[gb265]? = some (.cells #[.int .i64 ((rd_T35 l0_6 x4_1).f0), .int .u16 ((rd_T35 l0_6 x4_1).f1), .int .u8 ((rd_T35 l0_6 x4_1).f2)] 35 (0, 0))) := ⟨h4_⟩
                                  have n5_ : Aside0 (Below w.heap.size w w61) := ⟨h5_⟩
                                  clear HO_3
                                  clear BK221
                                  clear BK265
                                  clear HB
                                  clear h0_ h1_ h2_ h3_ h4_ h5_
                                  have HO268 := n0_
                                  have HO274 := n1_
                                  have HO277 := n2_
                                  have BK221 := n3_
                                  have BK265 := n4_
                                  have HB := n5_
                                  clear n0_ n1_ n2_ n3_ n4_ n5_
                                  have hHeld : w61.cell? ⟨gb265, 0, none⟩ = some (.int .i64 ((rd_T35 l0_6 x4_1).f0)) ∧ w61.cell? ⟨gb265, 1, none⟩ = some (.int .u16 ((rd_T35 l0_6 x4_1).f1)) ∧ w61.cell? ⟨gb265, 2, none⟩ = some (.int .u8 ((rd_T35 l0_6 x4_1).f2)) := hS_
                                  refine norm_ (a' := ?_) ?_ ?_
                                  rotate_left
                                  · simp only [putAll, Act.put, List.setIfInBounds_toArray, List.set_cons_zero, List.set_cons_succ]
                                    rfl
                                  refine one_ (i := 12) (N := some 65) #[true, true, true, true, true, true, true, true, true, true, true, true, true, false, false] rfl rfl (one_of HT_.out (by kernel_rfl)) (by decide) (fun K hK => ?_)
                                  refine Kd.R_lit_step (Kd.int .u8) _ 5 ?hg (N := 65) ?hd (xs := ([(rd_T35 l0_6 x4_1).f2] : List Int)) (inner := [.int .u8 ((rd_T35 l0_6 x4_1).f2)]) (ok := fun _ => True) (okp := fun _ => True) ?hr ?hp (fun _ hk => hk) trivial (Below.refl _ _) (Nat.le_refl _) (by simp) ?_; (case hd => rfl); (case hg => rfl); (case hr => first | (go_simp; done) | (go_simp; rfl)); (case hp => exact (Reps.one (show Kd.M (Kd.int .u8) _ _ _ ((rd_T35 l0_6 x4_1).f2) [.int .u8 ((rd_T35 l0_6 x4_1).f2)] from rfl) (Reps.none _ _)))
                                  intro v279 w62 ho63 hb hg_ hnew_
                                  clear hg_ hnew_
                                  (first | rw [← Ny278.out] at ho63 | (simp only [Int.reduceToNat] at ho63; rw [← Ny278.out] at ho63))
                                  have n0_ := Aside0.mk (Kd.R_elder' (by (with_reducible repeat (first | apply Kd.R_alloc | apply Kd.R_drewN | apply Kd.R_drew)); exact HO268.out) (Kd.R_base ho63) hb)
                                  have n1_ := Aside0.mk (Kd.R_elder' (by (with_reducible repeat (first | apply Kd.R_alloc | apply Kd.R_drewN | apply Kd.R_drew)); exact HO274.out) (Kd.R_base ho63) hb)
                                  have n2_ := Aside0.mk (Kd.R_elder' (by (with_reducible repeat (first | apply Kd.R_alloc | apply Kd.R_drewN | apply Kd.R_drew)); exact HO277.out) (Kd.R_base ho63) hb)
                                  have n3_ := Aside0.mk (Kd.R_lower (Kd.R_new' (Kd.R_new' (Kd.R_new' ho63 (Kd.R_lt (by (with_reducible repeat (first | apply Kd.R_alloc | apply Kd.R_drewN | apply Kd.R_drew)); exact HO268.out))) (Kd.R_lt (by (with_reducible repeat (first | apply Kd.R_alloc | apply Kd.R_drewN | apply Kd.R_drew)); exact HO274.out))) (Kd.R_lt (by (with_reducible repeat (first | apply Kd.R_alloc | apply Kd.R_drewN | apply Kd.R_drew)); exact HO277.out))) (below_size (by repeat (first | (with_reducible first | exact HB.out | apply below_alloc | apply pw_below_drewN | apply below_drew1 | refine below_set ?_ GE221.out | refine below_set ?_ GE265.out) | exact HB.out))))
                                  have n4_ := Aside0.mk (blk_below (g := gb221) (o := .cells #[.int .i64 a0_0, .int .i64 a0_1, .int .i64 a0_2, .int .i64 a0_3, .int .i64 a0_4, .slice A0_5 l0_5.length c0_5, .slice (some ad264) l0_6.length c0_6] 39 (0, 0)) (by (with_reducible repeat (first | refine blk_drewN ?_ _ | refine blk_drew ?_ | refine blk_alloc ?_ _)); exact BK221.out) hb)
                                  have n5_ := Aside0.mk (blk_below (g := gb265) (o := .cells #[.int .i64 ((rd_T35 l0_6 x4_1).f0), .int .u16 ((rd_T35 l0_6 x4_1).f1), .int .u8 ((rd_T35 l0_6 x4_1).f2)] 35 (0, 0)) (by (with_reducible repeat (first | refine blk_drewN ?_ _ | refine blk_drew ?_ | refine blk_alloc ?_ _)); exact BK265.out) hb)
                                  have n6_ := Aside0.mk (below_step (by repeat (first | (with_reducible first | exact HB.out | apply below_alloc | apply pw_below_drewN | apply below_drew1 | refine below_set ?_ GE221.out | refine below_set ?_ GE265.out) | exact HB.out)) hb)
                                  clear HO268
                                  clear HO274
                                  clear HO277
                                  clear BK221
                                  clear BK265
                                  clear HB
                                  have HO268 := n0_
                                  have HO274 := n1_
                                  have HO277 := n2_
                                  have HO280 := n3_
                                  have BK221 := n4_
                                  have BK265 := n5_
                                  have HB := n6_
                                  clear n0_ n1_ n2_ n3_ n4_ n5_ n6_
                                  clear hb ho63
                                  refine hK.out _ _ ⟨(blk_cell BK265.out 0).trans rfl, (blk_cell BK265.out 1).trans rfl, (blk_cell BK265.out 2).trans rfl⟩ (fun hHeld => ?_)
                                  clear hK K
                                  refine norm_ (a' := ?_) ?_ ?_
                                  rotate_left
                                  · show Act.put _ (some 65) _ = _
                                    simp only [Act.put, List.setIfInBounds_toArray, List.set_cons_zero, List.set_cons_succ, i64_w, i32_w]
                                    rfl
                                  exact norm_ (by first | (simp only [putAll, Act.put, List.setIfInBounds_toArray, List.set_cons_zero, List.set_cons_succ]; done) | (simp only [putAll, Act.put, List.setIfInBounds_toArray, List.set_cons_zero, List.set_cons_succ]; rfl)) (hJ3_4_8_9_12 (v267, v270, v273, v276, v279) _ ⟨hHeld, (by (with_reducible repeat (first | apply Kd.R_alloc | apply Kd.R_drewN | apply Kd.R_drew)); exact Kd.R_mono HO268.out (fun _ hk => ⟨hk.1.1, ⟨hk.1.2, hk.2⟩⟩)), (by (with_reducible repeat (first | apply Kd.R_alloc | apply Kd.R_drewN | apply Kd.R_drew)); exact Kd.R_mono HO274.out (fun _ hk => ⟨hk.1.1, ⟨hk.1.2, hk.2⟩⟩)), (by (with_reducible repeat (first | apply Kd.R_alloc | apply Kd.R_drewN | apply Kd.R_drew)); exact Kd.R_mono HO277.out (fun _ hk => ⟨hk.1.1, ⟨hk.1.2, hk.2⟩⟩)), (by (with_reducible repeat (first | apply Kd.R_alloc | apply Kd.R_drewN | apply Kd.R_drew)); exact Kd.R_mono HO280.out (fun _ hk => ⟨hk.1.1.2, ⟨hk.1.2, hk.2⟩⟩)), (by (with_reducible repeat (first | refine blk_drewN ?_ _ | refine blk_drew ?_ | refine blk_alloc ?_ _)); exact BK221.out), (by (with_reducible repeat (first | refine blk_drewN ?_ _ | refine blk_drew ?_ | refine blk_alloc ?_ _)); exact BK265.out), (by repeat (first | (with_reducible first | exact HB.out | apply below_alloc | apply pw_below_drewN | apply below_drew1 | refine below_set ?_ GE221.out | refine below_set ?_ GE265.out) | exact HB.out))⟩)
                              rintro ⟨v267, v270, v273, v276, v279⟩ w63 ⟨hS_, h0_, h1_, h2_, h3_, h4_, h5_, h6_⟩
                              have n0_ : Aside0 (Kd.R (Kd.int .u8) 5 w63 w.heap.size (fun k_ => some k_ ≠ (v273 : Value).ownBlock ∧ some k_ ≠ (v276 : Value).ownBlock ∧ some k_ ≠ (v279 : Value).ownBlock) v267 t266) := ⟨h0_⟩
                              have n1_ : Aside0 (Kd.R (Kd.int .u8) 5 w63 w.heap.size (fun k_ => some k_ ≠ (v267 : Value).ownBlock ∧ some k_ ≠ (v276 : Value).ownBlock ∧ some k_ ≠ (v279 : Value).ownBlock) v273 t272) := ⟨h1_⟩
                              have n2_ : Aside0 (Kd.R (Kd.int .u8) 5 w63 w.heap.size (fun k_ => some k_ ≠ (v267 : Value).ownBlock ∧ some k_ ≠ (v273 : Value).ownBlock ∧ some k_ ≠ (v279 : Value).ownBlock) v276 y275) := ⟨h2_⟩
                              have n3_ : Aside0 (Kd.R (Kd.int .u8) 5 w63 w.heap.size (fun k_ => some k_ ≠ (v267 : Value).ownBlock ∧ some k_ ≠ (v273 : Value).ownBlock ∧ some k_ ≠ (v276 : Value).ownBlock) v279 y278) := ⟨h3_⟩
                              have n4_ : Aside0 (w63.heap[gb221]? = some (.cells #[.int .i64 a0_0, .int .i64 a0_1, .int .i64 a0_2, .int .i64 a0_3, .int .i64 a0_4, .slice A0_5 l0_5.length c0_5, .slice (some ad264) l0_6.length c0_6] 39 (0, 0))) := ⟨h4_⟩
                              have n5_ : Aside0 (w63.heap[gb265]? = some (.cells #[.int .i64 ((rd_T35 l0_6 x4_1).f0), .int .u16 ((rd_T35 l0_6 x4_1).f1), .int .u8 ((rd_T35 l0_6 x4_1).f2)] 35 (0, 0))) := ⟨h5_⟩
                              have n6_ : Aside0 (Below w.heap.size w w63) := ⟨h6_⟩
                              clear HO_3
                              clear BK221
                              clear BK265
                              clear HB
                              clear h0_ h1_ h2_ h3_ h4_ h5_ h6_
                              have HO268 := n0_
                              have HO274 := n1_
                              have HO277 := n2_
                              have HO280 := n3_
                              have BK221 := n4_
                              have BK265 := n5_
                              have HB := n6_
                              clear n0_ n1_ n2_ n3_ n4_ n5_ n6_
                              have hHeld : w63.cell? ⟨gb265, 0, none⟩ = some (.int .i64 ((rd_T35 l0_6 x4_1).f0)) ∧ w63.cell? ⟨gb265, 1, none⟩ = some (.int .u16 ((rd_T35 l0_6 x4_1).f1)) ∧ w63.cell? ⟨gb265, 2, none⟩ = some (.int .u8 ((rd_T35 l0_6 x4_1).f2)) := hS_
                              obtain ⟨Ao65, co65, eo65⟩ := Kd.R_slice HO280.out
                              (first | subst eo65 | (injection eo65 with f1_ f2_ f3_; have f4_ := f1_.symm; have f5_ := f3_.symm; clear f1_ f2_ f3_; subst f4_; subst f5_))
                              refine norm_ (a' := ?_) ?_ ?_
                              rotate_left
                              · simp only [putAll, Act.put, List.setIfInBounds_toArray, List.set_cons_zero, List.set_cons_succ]
                                rfl
                              refine one_ (i := 13) (N := some 66) #[true, true, true, true, true, true, true, true, true, true, true, true, true, true, false] rfl rfl (one_of HT_.out (by kernel_rfl)) (by decide) (fun K hK => ?_)
                              refine Kd.R_append_rows_step (Kd.int .u8) (w0 := w) w.heap.size (by rfl) (.tmp 62) (.tmp 65) 24 5 (.int .u8 0) 1 rfl Tryd.underlying24 info5 rfl (by decide) (by omega) v276 y275 y278 _ _ _ (fun k_ => some k_ ≠ (v267 : Value).ownBlock ∧ some k_ ≠ (v273 : Value).ownBlock ∧ some k_ ≠ (.slice Ao65 y278.length co65 : Value).ownBlock) (fun _ => False) rfl rfl ?aO ?aR (fun _ _ h => h) (fun _ h => h.elim) ?aF ?aB ?aS ?aL ?_
                              (case aR => repeat (first | exact (Kd.R_reads' HO280.out).2.2 | (with_reducible refine Kd.C_alloc ?_ _) | (with_reducible refine Kd.C_drewN ?_ _) | (with_reducible refine Kd.C_drew ?_)))
                              (case aB => exact (by repeat (first | (with_reducible first | exact HB.out | apply below_alloc | apply pw_below_drewN | apply below_drew1 | refine below_set ?_ GE221.out | refine below_set ?_ GE265.out) | exact HB.out)))
                              (case aF => exact (fun k_ hk => ⟨Kd.fresh' (Kd.R_lt (by (with_reducible repeat (first | apply Kd.R_alloc | apply Kd.R_drewN | apply Kd.R_drew)); exact HO268.out)) k_ hk, Kd.fresh' (Kd.R_lt (by (with_reducible repeat (first | apply Kd.R_alloc | apply Kd.R_drewN | apply Kd.R_drew)); exact HO274.out)) k_ hk, Kd.fresh' (Kd.R_lt (by (with_reducible repeat (first | apply Kd.R_alloc | apply Kd.R_drewN | apply Kd.R_drew)); exact HO280.out)) k_ hk⟩))
                              (case aO => exact (by (with_reducible repeat (first | apply Kd.R_alloc | apply Kd.R_drewN | apply Kd.R_drew)); exact HO277.out))
                              (case aS => exact (below_size (by repeat (first | (with_reducible first | exact HB.out | apply below_alloc | apply pw_below_drewN | apply below_drew1 | refine below_set ?_ GE221.out | refine below_set ?_ GE265.out) | exact HB.out))))
                              (case aL => have := LMc47.out; omega)
                              intro v282 w64 ho hb hg hat
                              rw [← Ny281.out] at ho
                              have n0_ := Aside0.mk (blk_grown (g := gb221) (o := .cells #[.int .i64 a0_0, .int .i64 a0_1, .int .i64 a0_2, .int .i64 a0_3, .int .i64 a0_4, .slice A0_5 l0_5.length c0_5, .slice (some ad264) l0_6.length c0_6] 39 (0, 0)) (by (with_reducible repeat (first | refine blk_drewN ?_ _ | refine blk_drew ?_ | refine blk_alloc ?_ _)); exact BK221.out) hg (Kd.R_ne HO277.out BK221.out (by decide)))
                              have n1_ := Aside0.mk (blk_grown (g := gb265) (o := .cells #[.int .i64 ((rd_T35 l0_6 x4_1).f0), .int .u16 ((rd_T35 l0_6 x4_1).f1), .int .u8 ((rd_T35 l0_6 x4_1).f2)] 35 (0, 0)) (by (with_reducible repeat (first | refine blk_drewN ?_ _ | refine blk_drew ?_ | refine blk_alloc ?_ _)); exact BK265.out) hg (Kd.R_ne HO277.out BK265.out (by decide)))
                              have n2_ := Aside0.mk (Kd.R_after (ok := (fun k_ => some k_ ≠ (v273 : Value).ownBlock ∧ some k_ ≠ (.slice Ao65 y278.length co65 : Value).ownBlock)) (by (with_reducible repeat (first | apply Kd.R_alloc | apply Kd.R_drewN | apply Kd.R_drew)); exact Kd.R_mono HO268.out (fun _ hk => ⟨⟨hk.1, hk.2.2⟩, hk.2.1⟩)) hg hat)
                              have n3_ := Aside0.mk (Kd.R_after (ok := (fun k_ => some k_ ≠ (v267 : Value).ownBlock ∧ some k_ ≠ (.slice Ao65 y278.length co65 : Value).ownBlock)) (by (with_reducible repeat (first | apply Kd.R_alloc | apply Kd.R_drewN | apply Kd.R_drew)); exact Kd.R_mono HO274.out (fun _ hk => ⟨⟨hk.1, hk.2.2⟩, hk.2.1⟩)) hg hat)
                              have n4_ := Aside0.mk (Kd.R_after (ok := (fun k_ => some k_ ≠ (v267 : Value).ownBlock ∧ some k_ ≠ (v273 : Value).ownBlock)) (by (with_reducible repeat (first | apply Kd.R_alloc | apply Kd.R_drewN | apply Kd.R_drew)); exact Kd.R_mono HO280.out (fun _ hk => ⟨⟨hk.1, hk.2.1⟩, hk.2.2⟩)) hg hat)
                              have n5_ := Aside0.mk (hb)
                              have n6_ := Aside0.mk (ho)
                              clear BK221
                              clear BK265
                              clear HO268
                              clear HO274
                              clear HO280
                              clear HB
                              clear HO277
                              have BK221 := n0_
                              have BK265 := n1_
                              have HO268 := n2_
                              have HO274 := n3_
                              have HO280 := n4_
                              have HB := n5_
                              have HO283 := n6_
                              clear n0_ n1_ n2_ n3_ n4_ n5_ n6_
                              clear ho hb hg hat
                              refine hK.out _ _ ⟨(blk_cell BK265.out 0).trans rfl, (blk_cell BK265.out 1).trans rfl, (blk_cell BK265.out 2).trans rfl⟩ (fun hHeld => ?_)
                              clear hK K
                              refine norm_ (a' := ?_) ?_ ?_
                              rotate_left
                              · show Act.put _ (some 66) _ = _
                                simp only [Act.put, List.setIfInBounds_toArray, List.set_cons_zero, List.set_cons_succ, i64_w, i32_w]
                                rfl
                              refine pure_ (i := 14) (N := some 3) (v := ?_) (a' := ?_) #[true, true, true, true, true, true, true, true, true, true, true, true, true, true, true] rfl rfl (any_of HT_.out (by kernel_rfl)) (fun _ _ _ h => h) (Or.inl ⟨by rfl, ?_⟩) ?_ ?_
                              rotate_left
                              · intro w'
                                go_simp
                                with_reducible rfl
                              rotate_left
                              · simp only [Act.put, List.setIfInBounds_toArray, List.set_cons_zero, List.set_cons_succ, i64_w, i32_w]
                                rfl
                              refine done_ (done_of HT_.out (by kernel_rfl)) ?_
                              try go_wp2
                              go_roundg k1
                              case measure => have := HK1.out; omega
                              case rel => exact ⟨(y281), (wrap64 (x4_1 + 1)), (by first | rfl | (simp; done) | (simp [*]; done) | (simp [isEmpty_ne]; done)), H', ⟨by have := HK1.out; omega⟩, ⟨by (with_reducible repeat (first | apply Kd.R_alloc | apply Kd.R_drewN | apply Kd.R_drew)); exact Kd.R_mono HO283.out (fun _ hk => trivial)⟩, ⟨by (with_reducible repeat (first | refine blk_drewN ?_ _ | refine blk_drew ?_ | refine blk_alloc ?_ _)); exact BK221.out⟩, ⟨by repeat (first | (with_reducible first | exact HB.out | apply below_alloc | apply pw_below_drewN | apply below_drew1 | refine below_set ?_ GE221.out | refine below_set ?_ GE265.out) | exact HB.out)⟩⟩
                            · rw [if_neg c47] at H
                              exact absurd H (by simp)
                          · rw [if_neg c46] at H
                            exact absurd H (by simp)
                        · rw [if_neg c44] at H
                          exact absurd H (by simp)
                      · rw [if_neg c42] at H
                        exact absurd H (by simp)
                    · rw [if_neg c41] at H
                      have c41b0 : decide (x4_1 < (l0_6.length : Int)) = false := decide_eq_false c41
                      clear c41
                      obtain rfl := Option.some.inj H
                      have hcz66_0 : wr.cell? ⟨gb221, 0, none⟩ = some (.int .i64 a0_0) := (blk_cell BK221.out 0).trans rfl
                      have hcz66_1 : wr.cell? ⟨gb221, 1, none⟩ = some (.int .i64 a0_1) := (blk_cell BK221.out 1).trans rfl
                      have hcz66_2 : wr.cell? ⟨gb221, 2, none⟩ = some (.int .i64 a0_2) := (blk_cell BK221.out 2).trans rfl
                      have hcz66_3 : wr.cell? ⟨gb221, 3, none⟩ = some (.int .i64 a0_3) := (blk_cell BK221.out 3).trans rfl
                      have hcz66_4 : wr.cell? ⟨gb221, 4, none⟩ = some (.int .i64 a0_4) := (blk_cell BK221.out 4).trans rfl
                      have hcz66_5 : wr.cell? ⟨gb221, 5, none⟩ = some (.slice A0_5 l0_5.length c0_5) := (blk_cell BK221.out 5).trans rfl
                      have hcz66_6 : wr.cell? ⟨gb221, 6, none⟩ = some (.slice A0_6 l0_6.length c0_6) := (blk_cell BK221.out 6).trans rfl
                      have hfz66_0 := blk_frozen BK221.out 0
                      have hfz66_1 := blk_frozen BK221.out 1
                      have hfz66_2 := blk_frozen BK221.out 2
                      have hfz66_3 := blk_frozen BK221.out 3
                      have hfz66_4 := blk_frozen BK221.out 4
                      have hfz66_5 := blk_frozen BK221.out 5
                      have hfz66_6 := blk_frozen BK221.out 6
                      go_wp2
                      go_ret
                      exact ⟨_, by first | rfl | (simp [errW_none, errW_some] <;> rfl) | (simp [*, errW_none, errW_some] <;> rfl), by (with_reducible repeat (first | apply Kd.R_alloc | apply Kd.R_drewN | apply Kd.R_drew)); exact HO_3.out, by repeat (first | (with_reducible first | exact HB.out | apply below_alloc | apply pw_below_drewN | apply below_drew1 | refine below_set ?_ GE221.out) | exact HB.out)⟩
              · rw [if_neg c15] at H
                exact absurd H (by simp)
            · rw [if_neg c13] at H
              exact absurd H (by simp)
          · rw [if_neg c12] at H
            exact absurd H (by simp)
        · rw [if_neg c10] at H
          exact absurd H (by simp)
      · rw [if_neg c8] at H
        exact absurd H (by simp)
    · rw [if_neg c6] at H
      exact absurd H (by simp)
  · rw [if_neg c4] at H
    exact absurd H (by simp)
end Go.Proofs.YtpjdgndbcjinjaaDoor.P
