/- Printed by a program of this session (it turns the kit's print): see wip/myprint. -/
import Derived.Test.YtgnjlgfnpfjjnaaPx0
import Derived.Test.YtgnjlgfnpfjjnaaPx2
import Derived.Test.YtgnjlgfnpfjjnaaPx5
import Derived.Test.YtgnjlgfnpfjjnaaPx7
namespace Go.Proofs.Ytgnjlgfnpfjjnaa.P
open Go.RowKit Go.Proofs.YtgnjlgfnpfjjnaaW.PrintWords Go.Proofs.YtgnjlgfnpfjjnaaW.PrintLast Go.Proofs.YtgnjlgfnpfjjnaaW.PrintMore Go.Proofs.Ytgnjlgfnpfjjnaa.Mine
attribute [local go_sem] max2_int min2_int max_two min_two max_three min_three max_four min_four   -- for this text's walks alone
set_option linter.unusedVariables false
set_option linter.unusedSimpArgs false

/-! ### wisplaw01_NumOrder: function 6 -/
mutual
def wisplaw01_NumOrder.j0 : Nat → Int → Int → Int → Int → Int → Int → Int → Bool → Option (Bool)
  | 0, _, _, _, _, _, _, _, _ => none
  | k + 1, x0, x1, x2, x8, x9, x10, x11, x78 => if x78 = true then (some false) else ((wisplaw01_two.f k 30 x0 x1).bind fun t277 => ((wisplaw01_two.f k 31 x0 x1).bind fun t278 => (if x8 = 65535 then (if t277 = x0 then (if t278 = x1 then (if x10 = 65535 then (if t277 = x1 then (if t278 = x0 then (if x9 = 65535 then (wisplaw01_NumOrder.j1 k x0 x1 x2 x8 x11 (t278 != x0)) else (wisplaw01_NumOrder.j1 k x0 x1 x2 x8 x11 false)) else (wisplaw01_NumOrder.j1 k x0 x1 x2 x8 x11 true)) else (wisplaw01_NumOrder.j1 k x0 x1 x2 x8 x11 true)) else (if x9 = 65535 then (wisplaw01_NumOrder.j1 k x0 x1 x2 x8 x11 (t278 != x0)) else (wisplaw01_NumOrder.j1 k x0 x1 x2 x8 x11 false))) else (wisplaw01_NumOrder.j1 k x0 x1 x2 x8 x11 true)) else (wisplaw01_NumOrder.j1 k x0 x1 x2 x8 x11 true)) else (if x10 = 65535 then (if t277 = x1 then (if t278 = x0 then (if x9 = 65535 then (if t277 = x0 then (wisplaw01_NumOrder.j1 k x0 x1 x2 x8 x11 (t278 != x0)) else (wisplaw01_NumOrder.j1 k x0 x1 x2 x8 x11 true)) else (wisplaw01_NumOrder.j1 k x0 x1 x2 x8 x11 false)) else (wisplaw01_NumOrder.j1 k x0 x1 x2 x8 x11 true)) else (wisplaw01_NumOrder.j1 k x0 x1 x2 x8 x11 true)) else (if x9 = 65535 then (if t277 = x0 then (wisplaw01_NumOrder.j1 k x0 x1 x2 x8 x11 (t278 != x0)) else (wisplaw01_NumOrder.j1 k x0 x1 x2 x8 x11 true)) else (wisplaw01_NumOrder.j1 k x0 x1 x2 x8 x11 false))))))
def wisplaw01_NumOrder.j1 : Nat → Int → Int → Int → Int → Int → Bool → Option (Bool)
  | 0, _, _, _, _, _, _ => none
  | k + 1, x0, x1, x2, x8, x11, x124 => if x124 = true then (some false) else (if x8 = 65535 then ((wisplaw01_two.f k 44 x1 x2).bind fun t279 => (if t279 = 65535 then ((wisplaw01_two.f k 44 x0 x2).bind fun t280 => (if t280 = 65535 then (if x11 = 65535 then ((wisplaw01_two.f k 46 x1 x2).bind fun t281 => (if t281 = 65535 then ((wisplaw01_two.f k 46 x0 x2).bind fun t282 => (wisplaw01_NumOrder.j2 k x0 x1 x8 x11 (t282 != 65535))) else (wisplaw01_NumOrder.j2 k x0 x1 x8 x11 false))) else (wisplaw01_NumOrder.j2 k x0 x1 x8 x11 false)) else (wisplaw01_NumOrder.j2 k x0 x1 x8 x11 true))) else (if x11 = 65535 then ((wisplaw01_two.f k 46 x1 x2).bind fun t283 => (if t283 = 65535 then ((wisplaw01_two.f k 46 x0 x2).bind fun t284 => (wisplaw01_NumOrder.j2 k x0 x1 x8 x11 (t284 != 65535))) else (wisplaw01_NumOrder.j2 k x0 x1 x8 x11 false))) else (wisplaw01_NumOrder.j2 k x0 x1 x8 x11 false)))) else (if x11 = 65535 then ((wisplaw01_two.f k 46 x1 x2).bind fun t285 => (if t285 = 65535 then ((wisplaw01_two.f k 46 x0 x2).bind fun t286 => (wisplaw01_NumOrder.j2 k x0 x1 x8 x11 (t286 != 65535))) else (wisplaw01_NumOrder.j2 k x0 x1 x8 x11 false))) else (wisplaw01_NumOrder.j2 k x0 x1 x8 x11 false)))
def wisplaw01_NumOrder.j2 : Nat → Int → Int → Int → Int → Bool → Option (Bool)
  | 0, _, _, _, _, _ => none
  | k + 1, x0, x1, x8, x11, x154 => if x154 = true then (some false) else ((wisplaw01_one.f 49 x0).bind fun t287 => ((wisplaw01_one.f 49 x1).bind fun t288 => (if ((x8 != x11) == (t287 != t288)) = true then ((wisplaw01_one.f 48 x0).bind fun t289 => ((wisplaw01_two.f k 42 x0 0).bind fun t290 => (if t289 = t290 then ((wisplaw01_one.f 49 x0).bind fun t291 => ((wisplaw01_two.f k 44 x0 0).bind fun t292 => (some (t291 == t292)))) else (some false)))) else (some false))))
end
def wisplaw01_NumOrder.f (k : Nat) (a0 : Int) (a1 : Int) (a2 : Int) : Option (Bool) := (wisplaw01_two.f k 44 a0 a1).bind fun t265 => ((wisplaw01_two.f k 42 a0 a1).bind fun t266 => ((wisplaw01_two.f k 45 a0 a1).bind fun t267 => ((wisplaw01_two.f k 46 a0 a1).bind fun t268 => ((wisplaw01_two.f k 47 a0 a1).bind fun t269 => ((wisplaw01_NumOrder_1.f t265 t266 t267).bind fun t270 => (if t270 = true then ((wisplaw01_NumOrder_1.f t268 t266 t269).bind fun t271 => (if t271 = true then ((wisplaw01_two.f k 43 a0 a1).bind fun t272 => ((wisplaw01_one.f 39 t266).bind fun t273 => (if t272 = t273 then (if ((t266 == 65535) != (a0 == a1)) = true then (wisplaw01_NumOrder.j0 k a0 a1 a2 t265 t266 t267 t268 true) else ((wisplaw01_two.f k 45 a1 a0).bind fun t274 => (if t265 = t274 then ((wisplaw01_two.f k 47 a1 a0).bind fun t275 => (if t268 = t275 then ((wisplaw01_fixed.f k).bind fun t276 => (wisplaw01_NumOrder.j0 k a0 a1 a2 t265 t266 t267 t268 (!t276))) else (wisplaw01_NumOrder.j0 k a0 a1 a2 t265 t266 t267 t268 true))) else (wisplaw01_NumOrder.j0 k a0 a1 a2 t265 t266 t267 t268 true)))) else (wisplaw01_NumOrder.j0 k a0 a1 a2 t265 t266 t267 t268 true)))) else (wisplaw01_NumOrder.j0 k a0 a1 a2 t265 t266 t267 t268 true))) else (wisplaw01_NumOrder.j0 k a0 a1 a2 t265 t266 t267 t268 true)))))))
theorem wisplaw01_NumOrder.mono_l : ∀ k, (∀ y0 y1 y2 y3 y4 y5 y6 y7, LeO (wisplaw01_NumOrder.j0 k y0 y1 y2 y3 y4 y5 y6 y7) (wisplaw01_NumOrder.j0 (k + 1) y0 y1 y2 y3 y4 y5 y6 y7)) ∧ (∀ y0 y1 y2 y3 y4 y5, LeO (wisplaw01_NumOrder.j1 k y0 y1 y2 y3 y4 y5) (wisplaw01_NumOrder.j1 (k + 1) y0 y1 y2 y3 y4 y5)) ∧ (∀ y0 y1 y2 y3 y4, LeO (wisplaw01_NumOrder.j2 k y0 y1 y2 y3 y4) (wisplaw01_NumOrder.j2 (k + 1) y0 y1 y2 y3 y4))
  | 0 => ⟨fun _ _ _ _ _ _ _ _ r h => by simp [wisplaw01_NumOrder.j0] at h, fun _ _ _ _ _ _ r h => by simp [wisplaw01_NumOrder.j1] at h, fun _ _ _ _ _ r h => by simp [wisplaw01_NumOrder.j2] at h⟩
  | k + 1 => by
    obtain ⟨ih0, ih1, ih2⟩ := wisplaw01_NumOrder.mono_l k
    refine ⟨?_, ?_, ?_⟩
    · intro y0 y1 y2 y3 y4 y5 y6 y7
      unfold wisplaw01_NumOrder.j0
      repeat' first
      | (with_reducible exact ih0 _ _ _ _ _ _ _ _)
      | (with_reducible exact ih1 _ _ _ _ _ _)
      | (with_reducible exact ih2 _ _ _ _ _)
      | (with_reducible exact wisplaw01_fixed.mono _)
      | (with_reducible exact wisplaw01_two.mono _ _ _ _)
      | (with_reducible exact LeO.refl _)
      | (with_reducible exact LeO.none _)
      | (with_reducible refine LeO.ite ?_ ?_)
      | (with_reducible refine LeO.bind ?_ (fun _ => ?_))
      | exact ih0 _ _ _ _ _ _ _ _
      | exact ih1 _ _ _ _ _ _
      | exact ih2 _ _ _ _ _
      | exact wisplaw01_fixed.mono _
      | exact wisplaw01_two.mono _ _ _ _
      | exact LeO.none _
      | refine LeO.ite ?_ ?_
      | refine LeO.bind ?_ (fun _ => ?_)
    · intro y0 y1 y2 y3 y4 y5
      unfold wisplaw01_NumOrder.j1
      repeat' first
      | (with_reducible exact ih0 _ _ _ _ _ _ _ _)
      | (with_reducible exact ih1 _ _ _ _ _ _)
      | (with_reducible exact ih2 _ _ _ _ _)
      | (with_reducible exact wisplaw01_fixed.mono _)
      | (with_reducible exact wisplaw01_two.mono _ _ _ _)
      | (with_reducible exact LeO.refl _)
      | (with_reducible exact LeO.none _)
      | (with_reducible refine LeO.ite ?_ ?_)
      | (with_reducible refine LeO.bind ?_ (fun _ => ?_))
      | exact ih0 _ _ _ _ _ _ _ _
      | exact ih1 _ _ _ _ _ _
      | exact ih2 _ _ _ _ _
      | exact wisplaw01_fixed.mono _
      | exact wisplaw01_two.mono _ _ _ _
      | exact LeO.none _
      | refine LeO.ite ?_ ?_
      | refine LeO.bind ?_ (fun _ => ?_)
    · intro y0 y1 y2 y3 y4
      unfold wisplaw01_NumOrder.j2
      repeat' first
      | (with_reducible exact ih0 _ _ _ _ _ _ _ _)
      | (with_reducible exact ih1 _ _ _ _ _ _)
      | (with_reducible exact ih2 _ _ _ _ _)
      | (with_reducible exact wisplaw01_fixed.mono _)
      | (with_reducible exact wisplaw01_two.mono _ _ _ _)
      | (with_reducible exact LeO.refl _)
      | (with_reducible exact LeO.none _)
      | (with_reducible refine LeO.ite ?_ ?_)
      | (with_reducible refine LeO.bind ?_ (fun _ => ?_))
      | exact ih0 _ _ _ _ _ _ _ _
      | exact ih1 _ _ _ _ _ _
      | exact ih2 _ _ _ _ _
      | exact wisplaw01_fixed.mono _
      | exact wisplaw01_two.mono _ _ _ _
      | exact LeO.none _
      | refine LeO.ite ?_ ?_
      | refine LeO.bind ?_ (fun _ => ?_)
theorem wisplaw01_NumOrder.mono : ∀ a0 a1 a2 k, LeO (wisplaw01_NumOrder.f k a0 a1 a2) (wisplaw01_NumOrder.f (k + 1) a0 a1 a2) := by
  intro a0 a1 a2 k
  obtain ⟨ih0, ih1, ih2⟩ := wisplaw01_NumOrder.mono_l k
  unfold wisplaw01_NumOrder.f
  repeat' first
      | (with_reducible exact ih0 _ _ _ _ _ _ _ _)
      | (with_reducible exact ih1 _ _ _ _ _ _)
      | (with_reducible exact ih2 _ _ _ _ _)
      | (with_reducible exact wisplaw01_fixed.mono _)
      | (with_reducible exact wisplaw01_two.mono _ _ _ _)
      | (with_reducible exact LeO.refl _)
      | (with_reducible exact LeO.none _)
      | (with_reducible refine LeO.ite ?_ ?_)
      | (with_reducible refine LeO.bind ?_ (fun _ => ?_))
      | exact ih0 _ _ _ _ _ _ _ _
      | exact ih1 _ _ _ _ _ _
      | exact ih2 _ _ _ _ _
      | exact wisplaw01_fixed.mono _
      | exact wisplaw01_two.mono _ _ _ _
      | exact LeO.none _
      | refine LeO.ite ?_ ?_
      | refine LeO.bind ?_ (fun _ => ?_)
set_option maxHeartbeats 8000000 in
set_option maxRecDepth 100000 in
theorem wisplaw01_NumOrder.calls (k : Nat) (a0 : Int) (a1 : Int) (a2 : Int) (r : Bool) (w : World) (h : wisplaw01_NumOrder.f k a0 a1 a2 = some r) :
    Calls Try.prog 6 #[.int .u16 a0, .int .u16 a1, .int .u16 a2] w fun e w' => e = .returned (.bool r) ∧ Drawn0 w w' := by
  have H : ((wisplaw01_two.f k 44 a0 a1).bind fun t265 => ((wisplaw01_two.f k 42 a0 a1).bind fun t266 => ((wisplaw01_two.f k 45 a0 a1).bind fun t267 => ((wisplaw01_two.f k 46 a0 a1).bind fun t268 => ((wisplaw01_two.f k 47 a0 a1).bind fun t269 => ((wisplaw01_NumOrder_1.f t265 t266 t267).bind fun t270 => (if t270 = true then ((wisplaw01_NumOrder_1.f t268 t266 t269).bind fun t271 => (if t271 = true then ((wisplaw01_two.f k 43 a0 a1).bind fun t272 => ((wisplaw01_one.f 39 t266).bind fun t273 => (if t272 = t273 then (if ((t266 == 65535) != (a0 == a1)) = true then (wisplaw01_NumOrder.j0 k a0 a1 a2 t265 t266 t267 t268 true) else ((wisplaw01_two.f k 45 a1 a0).bind fun t274 => (if t265 = t274 then ((wisplaw01_two.f k 47 a1 a0).bind fun t275 => (if t268 = t275 then ((wisplaw01_fixed.f k).bind fun t276 => (wisplaw01_NumOrder.j0 k a0 a1 a2 t265 t266 t267 t268 (!t276))) else (wisplaw01_NumOrder.j0 k a0 a1 a2 t265 t266 t267 t268 true))) else (wisplaw01_NumOrder.j0 k a0 a1 a2 t265 t266 t267 t268 true)))) else (wisplaw01_NumOrder.j0 k a0 a1 a2 t265 t266 t267 t268 true)))) else (wisplaw01_NumOrder.j0 k a0 a1 a2 t265 t266 t267 t268 true))) else (wisplaw01_NumOrder.j0 k a0 a1 a2 t265 t266 t267 t268 true)))))))) = some r := h
  clear h
  replace H := Option.bind_eq_some_iff.mp H
  obtain ⟨t265, A40, H⟩ := H
  replace H : ((wisplaw01_two.f k 42 a0 a1).bind fun t266 => ((wisplaw01_two.f k 45 a0 a1).bind fun t267 => ((wisplaw01_two.f k 46 a0 a1).bind fun t268 => ((wisplaw01_two.f k 47 a0 a1).bind fun t269 => ((wisplaw01_NumOrder_1.f t265 t266 t267).bind fun t270 => (if t270 = true then ((wisplaw01_NumOrder_1.f t268 t266 t269).bind fun t271 => (if t271 = true then ((wisplaw01_two.f k 43 a0 a1).bind fun t272 => ((wisplaw01_one.f 39 t266).bind fun t273 => (if t272 = t273 then (if ((t266 == 65535) != (a0 == a1)) = true then (wisplaw01_NumOrder.j0 k a0 a1 a2 t265 t266 t267 t268 true) else ((wisplaw01_two.f k 45 a1 a0).bind fun t274 => (if t265 = t274 then ((wisplaw01_two.f k 47 a1 a0).bind fun t275 => (if t268 = t275 then ((wisplaw01_fixed.f k).bind fun t276 => (wisplaw01_NumOrder.j0 k a0 a1 a2 t265 t266 t267 t268 (!t276))) else (wisplaw01_NumOrder.j0 k a0 a1 a2 t265 t266 t267 t268 true))) else (wisplaw01_NumOrder.j0 k a0 a1 a2 t265 t266 t267 t268 true)))) else (wisplaw01_NumOrder.j0 k a0 a1 a2 t265 t266 t267 t268 true)))) else (wisplaw01_NumOrder.j0 k a0 a1 a2 t265 t266 t267 t268 true))) else (wisplaw01_NumOrder.j0 k a0 a1 a2 t265 t266 t267 t268 true))))))) = some r := H
  have A4 := Aside0.mk A40
  clear A40
  replace H := Option.bind_eq_some_iff.mp H
  obtain ⟨t266, A50, H⟩ := H
  replace H : ((wisplaw01_two.f k 45 a0 a1).bind fun t267 => ((wisplaw01_two.f k 46 a0 a1).bind fun t268 => ((wisplaw01_two.f k 47 a0 a1).bind fun t269 => ((wisplaw01_NumOrder_1.f t265 t266 t267).bind fun t270 => (if t270 = true then ((wisplaw01_NumOrder_1.f t268 t266 t269).bind fun t271 => (if t271 = true then ((wisplaw01_two.f k 43 a0 a1).bind fun t272 => ((wisplaw01_one.f 39 t266).bind fun t273 => (if t272 = t273 then (if ((t266 == 65535) != (a0 == a1)) = true then (wisplaw01_NumOrder.j0 k a0 a1 a2 t265 t266 t267 t268 true) else ((wisplaw01_two.f k 45 a1 a0).bind fun t274 => (if t265 = t274 then ((wisplaw01_two.f k 47 a1 a0).bind fun t275 => (if t268 = t275 then ((wisplaw01_fixed.f k).bind fun t276 => (wisplaw01_NumOrder.j0 k a0 a1 a2 t265 t266 t267 t268 (!t276))) else (wisplaw01_NumOrder.j0 k a0 a1 a2 t265 t266 t267 t268 true))) else (wisplaw01_NumOrder.j0 k a0 a1 a2 t265 t266 t267 t268 true)))) else (wisplaw01_NumOrder.j0 k a0 a1 a2 t265 t266 t267 t268 true)))) else (wisplaw01_NumOrder.j0 k a0 a1 a2 t265 t266 t267 t268 true))) else (wisplaw01_NumOrder.j0 k a0 a1 a2 t265 t266 t267 t268 true)))))) = some r := H
  have A5 := Aside0.mk A50
  clear A50
  replace H := Option.bind_eq_some_iff.mp H
  obtain ⟨t267, A60, H⟩ := H
  replace H : ((wisplaw01_two.f k 46 a0 a1).bind fun t268 => ((wisplaw01_two.f k 47 a0 a1).bind fun t269 => ((wisplaw01_NumOrder_1.f t265 t266 t267).bind fun t270 => (if t270 = true then ((wisplaw01_NumOrder_1.f t268 t266 t269).bind fun t271 => (if t271 = true then ((wisplaw01_two.f k 43 a0 a1).bind fun t272 => ((wisplaw01_one.f 39 t266).bind fun t273 => (if t272 = t273 then (if ((t266 == 65535) != (a0 == a1)) = true then (wisplaw01_NumOrder.j0 k a0 a1 a2 t265 t266 t267 t268 true) else ((wisplaw01_two.f k 45 a1 a0).bind fun t274 => (if t265 = t274 then ((wisplaw01_two.f k 47 a1 a0).bind fun t275 => (if t268 = t275 then ((wisplaw01_fixed.f k).bind fun t276 => (wisplaw01_NumOrder.j0 k a0 a1 a2 t265 t266 t267 t268 (!t276))) else (wisplaw01_NumOrder.j0 k a0 a1 a2 t265 t266 t267 t268 true))) else (wisplaw01_NumOrder.j0 k a0 a1 a2 t265 t266 t267 t268 true)))) else (wisplaw01_NumOrder.j0 k a0 a1 a2 t265 t266 t267 t268 true)))) else (wisplaw01_NumOrder.j0 k a0 a1 a2 t265 t266 t267 t268 true))) else (wisplaw01_NumOrder.j0 k a0 a1 a2 t265 t266 t267 t268 true))))) = some r := H
  have A6 := Aside0.mk A60
  clear A60
  replace H := Option.bind_eq_some_iff.mp H
  obtain ⟨t268, A70, H⟩ := H
  replace H : ((wisplaw01_two.f k 47 a0 a1).bind fun t269 => ((wisplaw01_NumOrder_1.f t265 t266 t267).bind fun t270 => (if t270 = true then ((wisplaw01_NumOrder_1.f t268 t266 t269).bind fun t271 => (if t271 = true then ((wisplaw01_two.f k 43 a0 a1).bind fun t272 => ((wisplaw01_one.f 39 t266).bind fun t273 => (if t272 = t273 then (if ((t266 == 65535) != (a0 == a1)) = true then (wisplaw01_NumOrder.j0 k a0 a1 a2 t265 t266 t267 t268 true) else ((wisplaw01_two.f k 45 a1 a0).bind fun t274 => (if t265 = t274 then ((wisplaw01_two.f k 47 a1 a0).bind fun t275 => (if t268 = t275 then ((wisplaw01_fixed.f k).bind fun t276 => (wisplaw01_NumOrder.j0 k a0 a1 a2 t265 t266 t267 t268 (!t276))) else (wisplaw01_NumOrder.j0 k a0 a1 a2 t265 t266 t267 t268 true))) else (wisplaw01_NumOrder.j0 k a0 a1 a2 t265 t266 t267 t268 true)))) else (wisplaw01_NumOrder.j0 k a0 a1 a2 t265 t266 t267 t268 true)))) else (wisplaw01_NumOrder.j0 k a0 a1 a2 t265 t266 t267 t268 true))) else (wisplaw01_NumOrder.j0 k a0 a1 a2 t265 t266 t267 t268 true)))) = some r := H
  have A7 := Aside0.mk A70
  clear A70
  replace H := Option.bind_eq_some_iff.mp H
  obtain ⟨t269, A80, H⟩ := H
  replace H : ((wisplaw01_NumOrder_1.f t265 t266 t267).bind fun t270 => (if t270 = true then ((wisplaw01_NumOrder_1.f t268 t266 t269).bind fun t271 => (if t271 = true then ((wisplaw01_two.f k 43 a0 a1).bind fun t272 => ((wisplaw01_one.f 39 t266).bind fun t273 => (if t272 = t273 then (if ((t266 == 65535) != (a0 == a1)) = true then (wisplaw01_NumOrder.j0 k a0 a1 a2 t265 t266 t267 t268 true) else ((wisplaw01_two.f k 45 a1 a0).bind fun t274 => (if t265 = t274 then ((wisplaw01_two.f k 47 a1 a0).bind fun t275 => (if t268 = t275 then ((wisplaw01_fixed.f k).bind fun t276 => (wisplaw01_NumOrder.j0 k a0 a1 a2 t265 t266 t267 t268 (!t276))) else (wisplaw01_NumOrder.j0 k a0 a1 a2 t265 t266 t267 t268 true))) else (wisplaw01_NumOrder.j0 k a0 a1 a2 t265 t266 t267 t268 true)))) else (wisplaw01_NumOrder.j0 k a0 a1 a2 t265 t266 t267 t268 true)))) else (wisplaw01_NumOrder.j0 k a0 a1 a2 t265 t266 t267 t268 true))) else (wisplaw01_NumOrder.j0 k a0 a1 a2 t265 t266 t267 t268 true))) = some r := H
  have A8 := Aside0.mk A80
  clear A80
  have HC9 := Aside0.mk H
  clear H
  go_enter Try.func6, Try.ntmps6
  go_upto_region 3 with (first | ((with_reducible refine gate_callee (f := 18) rfl ?_); refine goesL_ (some 18) rfl rfl Try.func18 (by kernel_rfl) rfl #[.int .i64 44, .int .u16 a0, .int .u16 a1] rfl (by (try simp only [List.map_toArray, List.map_cons, List.map_nil]); first | done | rfl | (simp only [List.length_drop, List.length_take]; rfl)) ?_; (with_reducible refine (wisplaw01_two.calls k 44 a0 a1 t265 _ A4.out).mono ?_); rintro e w' ⟨rfl, ⟨nd, rfl⟩⟩; refine ⟨_, rfl, ?_⟩) | ((with_reducible refine gate_callee (f := 18) rfl ?_); refine goesL_ (some 21) rfl rfl Try.func18 (by kernel_rfl) rfl #[.int .i64 42, .int .u16 a0, .int .u16 a1] rfl (by (try simp only [List.map_toArray, List.map_cons, List.map_nil]); first | done | rfl | (simp only [List.length_drop, List.length_take]; rfl)) ?_; (with_reducible refine (wisplaw01_two.calls k 42 a0 a1 t266 _ A5.out).mono ?_); rintro e w' ⟨rfl, ⟨nd, rfl⟩⟩; refine ⟨_, rfl, ?_⟩) | ((with_reducible refine gate_callee (f := 18) rfl ?_); refine goesL_ (some 24) rfl rfl Try.func18 (by kernel_rfl) rfl #[.int .i64 45, .int .u16 a0, .int .u16 a1] rfl (by (try simp only [List.map_toArray, List.map_cons, List.map_nil]); first | done | rfl | (simp only [List.length_drop, List.length_take]; rfl)) ?_; (with_reducible refine (wisplaw01_two.calls k 45 a0 a1 t267 _ A6.out).mono ?_); rintro e w' ⟨rfl, ⟨nd, rfl⟩⟩; refine ⟨_, rfl, ?_⟩) | ((with_reducible refine gate_callee (f := 18) rfl ?_); refine goesL_ (some 27) rfl rfl Try.func18 (by kernel_rfl) rfl #[.int .i64 46, .int .u16 a0, .int .u16 a1] rfl (by (try simp only [List.map_toArray, List.map_cons, List.map_nil]); first | done | rfl | (simp only [List.length_drop, List.length_take]; rfl)) ?_; (with_reducible refine (wisplaw01_two.calls k 46 a0 a1 t268 _ A7.out).mono ?_); rintro e w' ⟨rfl, ⟨nd, rfl⟩⟩; refine ⟨_, rfl, ?_⟩) | ((with_reducible refine gate_callee (f := 18) rfl ?_); refine goesL_ (some 30) rfl rfl Try.func18 (by kernel_rfl) rfl #[.int .i64 47, .int .u16 a0, .int .u16 a1] rfl (by (try simp only [List.map_toArray, List.map_cons, List.map_nil]); first | done | rfl | (simp only [List.length_drop, List.length_take]; rfl)) ?_; (with_reducible refine (wisplaw01_two.calls k 47 a0 a1 t269 _ A8.out).mono ?_); rintro e w' ⟨rfl, ⟨nd, rfl⟩⟩; refine ⟨_, rfl, ?_⟩))
  (try simp only [Act.put, List.setIfInBounds_toArray, List.set_cons_zero, List.set_cons_succ])
  go_cut [78] (fun v78 wc => ∃ (kq : Nat) (x78_8 : Bool), v78 = .bool x78_8 ∧ Aside0 (wisplaw01_NumOrder.j0 kq a0 a1 a2 t265 t266 t267 t268 x78_8 = some r) ∧ Aside0 (kq ≤ k) ∧ Drawn0 w wc)
  case first =>
    have H := HC9.out
    clear HC9
    replace H := Option.bind_eq_some_iff.mp H
    obtain ⟨t270, A100, H⟩ := H
    replace H : (if t270 = true then ((wisplaw01_NumOrder_1.f t268 t266 t269).bind fun t271 => (if t271 = true then ((wisplaw01_two.f k 43 a0 a1).bind fun t272 => ((wisplaw01_one.f 39 t266).bind fun t273 => (if t272 = t273 then (if ((t266 == 65535) != (a0 == a1)) = true then (wisplaw01_NumOrder.j0 k a0 a1 a2 t265 t266 t267 t268 true) else ((wisplaw01_two.f k 45 a1 a0).bind fun t274 => (if t265 = t274 then ((wisplaw01_two.f k 47 a1 a0).bind fun t275 => (if t268 = t275 then ((wisplaw01_fixed.f k).bind fun t276 => (wisplaw01_NumOrder.j0 k a0 a1 a2 t265 t266 t267 t268 (!t276))) else (wisplaw01_NumOrder.j0 k a0 a1 a2 t265 t266 t267 t268 true))) else (wisplaw01_NumOrder.j0 k a0 a1 a2 t265 t266 t267 t268 true)))) else (wisplaw01_NumOrder.j0 k a0 a1 a2 t265 t266 t267 t268 true)))) else (wisplaw01_NumOrder.j0 k a0 a1 a2 t265 t266 t267 t268 true))) else (wisplaw01_NumOrder.j0 k a0 a1 a2 t265 t266 t267 t268 true)) = some r := H
    have A10 := Aside0.mk A100
    clear A100
    by_cases c11 : t270 = true
    · subst c11
      have H1 : ((wisplaw01_NumOrder_1.f t268 t266 t269).bind fun t271 => (if t271 = true then ((wisplaw01_two.f k 43 a0 a1).bind fun t272 => ((wisplaw01_one.f 39 t266).bind fun t273 => (if t272 = t273 then (if ((t266 == 65535) != (a0 == a1)) = true then (wisplaw01_NumOrder.j0 k a0 a1 a2 t265 t266 t267 t268 true) else ((wisplaw01_two.f k 45 a1 a0).bind fun t274 => (if t265 = t274 then ((wisplaw01_two.f k 47 a1 a0).bind fun t275 => (if t268 = t275 then ((wisplaw01_fixed.f k).bind fun t276 => (wisplaw01_NumOrder.j0 k a0 a1 a2 t265 t266 t267 t268 (!t276))) else (wisplaw01_NumOrder.j0 k a0 a1 a2 t265 t266 t267 t268 true))) else (wisplaw01_NumOrder.j0 k a0 a1 a2 t265 t266 t267 t268 true)))) else (wisplaw01_NumOrder.j0 k a0 a1 a2 t265 t266 t267 t268 true)))) else (wisplaw01_NumOrder.j0 k a0 a1 a2 t265 t266 t267 t268 true))) = some r := by rw [if_pos rfl] at H; exact H
      clear H
      have H := H1
      clear H1
      replace H := Option.bind_eq_some_iff.mp H
      obtain ⟨t271, A120, H⟩ := H
      replace H : (if t271 = true then ((wisplaw01_two.f k 43 a0 a1).bind fun t272 => ((wisplaw01_one.f 39 t266).bind fun t273 => (if t272 = t273 then (if ((t266 == 65535) != (a0 == a1)) = true then (wisplaw01_NumOrder.j0 k a0 a1 a2 t265 t266 t267 t268 true) else ((wisplaw01_two.f k 45 a1 a0).bind fun t274 => (if t265 = t274 then ((wisplaw01_two.f k 47 a1 a0).bind fun t275 => (if t268 = t275 then ((wisplaw01_fixed.f k).bind fun t276 => (wisplaw01_NumOrder.j0 k a0 a1 a2 t265 t266 t267 t268 (!t276))) else (wisplaw01_NumOrder.j0 k a0 a1 a2 t265 t266 t267 t268 true))) else (wisplaw01_NumOrder.j0 k a0 a1 a2 t265 t266 t267 t268 true)))) else (wisplaw01_NumOrder.j0 k a0 a1 a2 t265 t266 t267 t268 true)))) else (wisplaw01_NumOrder.j0 k a0 a1 a2 t265 t266 t267 t268 true)) = some r := H
      have A12 := Aside0.mk A120
      clear A120
      by_cases c13 : t271 = true
      · subst c13
        have H1 : ((wisplaw01_two.f k 43 a0 a1).bind fun t272 => ((wisplaw01_one.f 39 t266).bind fun t273 => (if t272 = t273 then (if ((t266 == 65535) != (a0 == a1)) = true then (wisplaw01_NumOrder.j0 k a0 a1 a2 t265 t266 t267 t268 true) else ((wisplaw01_two.f k 45 a1 a0).bind fun t274 => (if t265 = t274 then ((wisplaw01_two.f k 47 a1 a0).bind fun t275 => (if t268 = t275 then ((wisplaw01_fixed.f k).bind fun t276 => (wisplaw01_NumOrder.j0 k a0 a1 a2 t265 t266 t267 t268 (!t276))) else (wisplaw01_NumOrder.j0 k a0 a1 a2 t265 t266 t267 t268 true))) else (wisplaw01_NumOrder.j0 k a0 a1 a2 t265 t266 t267 t268 true)))) else (wisplaw01_NumOrder.j0 k a0 a1 a2 t265 t266 t267 t268 true)))) = some r := by rw [if_pos rfl] at H; exact H
        clear H
        have H := H1
        clear H1
        replace H := Option.bind_eq_some_iff.mp H
        obtain ⟨t272, A140, H⟩ := H
        replace H : ((wisplaw01_one.f 39 t266).bind fun t273 => (if t272 = t273 then (if ((t266 == 65535) != (a0 == a1)) = true then (wisplaw01_NumOrder.j0 k a0 a1 a2 t265 t266 t267 t268 true) else ((wisplaw01_two.f k 45 a1 a0).bind fun t274 => (if t265 = t274 then ((wisplaw01_two.f k 47 a1 a0).bind fun t275 => (if t268 = t275 then ((wisplaw01_fixed.f k).bind fun t276 => (wisplaw01_NumOrder.j0 k a0 a1 a2 t265 t266 t267 t268 (!t276))) else (wisplaw01_NumOrder.j0 k a0 a1 a2 t265 t266 t267 t268 true))) else (wisplaw01_NumOrder.j0 k a0 a1 a2 t265 t266 t267 t268 true)))) else (wisplaw01_NumOrder.j0 k a0 a1 a2 t265 t266 t267 t268 true))) = some r := H
        have A14 := Aside0.mk A140
        clear A140
        replace H := Option.bind_eq_some_iff.mp H
        obtain ⟨t273, A150, H⟩ := H
        replace H : (if t272 = t273 then (if ((t266 == 65535) != (a0 == a1)) = true then (wisplaw01_NumOrder.j0 k a0 a1 a2 t265 t266 t267 t268 true) else ((wisplaw01_two.f k 45 a1 a0).bind fun t274 => (if t265 = t274 then ((wisplaw01_two.f k 47 a1 a0).bind fun t275 => (if t268 = t275 then ((wisplaw01_fixed.f k).bind fun t276 => (wisplaw01_NumOrder.j0 k a0 a1 a2 t265 t266 t267 t268 (!t276))) else (wisplaw01_NumOrder.j0 k a0 a1 a2 t265 t266 t267 t268 true))) else (wisplaw01_NumOrder.j0 k a0 a1 a2 t265 t266 t267 t268 true)))) else (wisplaw01_NumOrder.j0 k a0 a1 a2 t265 t266 t267 t268 true)) = some r := H
        have A15 := Aside0.mk A150
        clear A150
        by_cases c16 : t272 = t273
        · rw [if_pos c16] at H
          have c16b0 : (t272 == t273) = true := beq_iff_eq.mpr c16
          have c16b1 : (t272 != t273) = false := bne_eq_false_iff_eq.mpr c16
          clear c16
          (first | rw [c16b0] | (simp only [i64_w, i32_w]; rw [c16b0]) | skip)
          by_cases c17 : ((t266 == 65535) != (a0 == a1)) = true
          · rw [if_pos c17] at H
            have c17b0 : ((t266 == 65535) != (a0 == a1)) = true := c17
            (try (have c17b1 : decide ((t266 == 65535) = (a0 == a1)) = false := by simpa using c17))
            (try (have c17b2 : ((t266 == 65535) == (a0 == a1)) = false := by simpa using c17))
            (try (have c17b3 : ¬ ((t266 == 65535) = (a0 == a1)) := by simpa using c17))
            clear c17
            as_aux_lemma =>
              have H' := Aside0.mk H
              clear H
              go_wp2_with (first | ((with_reducible refine gate_calleeT (t := 31) rfl ?_); refine goesT_ (some 35) rfl rfl Try.func20 (by kernel_rfl) rfl #[.int .u16 t265, .int .u16 t266, .int .u16 t267] rfl rfl (by (try simp only [List.map_toArray, List.map_cons, List.map_nil]); first | done | rfl | (simp only [List.length_drop, List.length_take]; rfl)) ?_; (with_reducible refine (wisplaw01_NumOrder_1.calls t265 t266 t267 true _ A10.out).mono ?_); rintro e w' ⟨rfl, ⟨nd, rfl⟩⟩; refine ⟨_, rfl, ?_⟩) | (go_at_call 20; (with_reducible refine (wisplaw01_NumOrder_1.calls t268 t266 t269 true _ A12.out).mono ?_); rintro e w' ⟨rfl, ⟨nd, rfl⟩⟩) | (go_at_call 18; (with_reducible refine (wisplaw01_two.calls k 43 a0 a1 t272 _ A14.out).mono ?_); rintro e w' ⟨rfl, ⟨nd, rfl⟩⟩) | (go_at_call 19; (with_reducible refine (wisplaw01_one.calls 39 t266 t273 _ A15.out).mono ?_); rintro e w' ⟨rfl, ⟨nd, rfl⟩⟩))
              go_meet
              case rel => exact ⟨_, (true), (by first | rfl | (simp; done) | (simp [*]; done)), H', ⟨by first | omega | exact Nat.le_refl _⟩, by repeat (first | exact Drawn0.refl _ | apply Drawn0.step)⟩
          · rw [if_neg c17] at H
            have c17b0 : ((t266 == 65535) != (a0 == a1)) = false := by simpa using c17
            (try (have c17b1 : decide ((t266 == 65535) = (a0 == a1)) = true := by simpa using c17))
            (try (have c17b2 : ((t266 == 65535) == (a0 == a1)) = true := by simpa using c17))
            clear c17
            replace H := Option.bind_eq_some_iff.mp H
            obtain ⟨t274, A180, H⟩ := H
            replace H : (if t265 = t274 then ((wisplaw01_two.f k 47 a1 a0).bind fun t275 => (if t268 = t275 then ((wisplaw01_fixed.f k).bind fun t276 => (wisplaw01_NumOrder.j0 k a0 a1 a2 t265 t266 t267 t268 (!t276))) else (wisplaw01_NumOrder.j0 k a0 a1 a2 t265 t266 t267 t268 true))) else (wisplaw01_NumOrder.j0 k a0 a1 a2 t265 t266 t267 t268 true)) = some r := H
            have A18 := Aside0.mk A180
            clear A180
            by_cases c19 : t265 = t274
            · rw [if_pos c19] at H
              have c19b0 : (t265 == t274) = true := beq_iff_eq.mpr c19
              have c19b1 : (t265 != t274) = false := bne_eq_false_iff_eq.mpr c19
              clear c19
              replace H := Option.bind_eq_some_iff.mp H
              obtain ⟨t275, A200, H⟩ := H
              replace H : (if t268 = t275 then ((wisplaw01_fixed.f k).bind fun t276 => (wisplaw01_NumOrder.j0 k a0 a1 a2 t265 t266 t267 t268 (!t276))) else (wisplaw01_NumOrder.j0 k a0 a1 a2 t265 t266 t267 t268 true)) = some r := H
              have A20 := Aside0.mk A200
              clear A200
              by_cases c21 : t268 = t275
              · rw [if_pos c21] at H
                have c21b0 : (t268 == t275) = true := beq_iff_eq.mpr c21
                have c21b1 : (t268 != t275) = false := bne_eq_false_iff_eq.mpr c21
                clear c21
                replace H := Option.bind_eq_some_iff.mp H
                obtain ⟨t276, A220, H⟩ := H
                replace H : (wisplaw01_NumOrder.j0 k a0 a1 a2 t265 t266 t267 t268 (!t276)) = some r := H
                have A22 := Aside0.mk A220
                clear A220
                as_aux_lemma =>
                  have H' := Aside0.mk H
                  clear H
                  go_wp2_with (first | ((with_reducible refine gate_calleeT (t := 31) rfl ?_); refine goesT_ (some 35) rfl rfl Try.func20 (by kernel_rfl) rfl #[.int .u16 t265, .int .u16 t266, .int .u16 t267] rfl rfl (by (try simp only [List.map_toArray, List.map_cons, List.map_nil]); first | done | rfl | (simp only [List.length_drop, List.length_take]; rfl)) ?_; (with_reducible refine (wisplaw01_NumOrder_1.calls t265 t266 t267 true _ A10.out).mono ?_); rintro e w' ⟨rfl, ⟨nd, rfl⟩⟩; refine ⟨_, rfl, ?_⟩) | (go_at_call 20; (with_reducible refine (wisplaw01_NumOrder_1.calls t268 t266 t269 true _ A12.out).mono ?_); rintro e w' ⟨rfl, ⟨nd, rfl⟩⟩) | (go_at_call 18; (with_reducible refine (wisplaw01_two.calls k 43 a0 a1 t272 _ A14.out).mono ?_); rintro e w' ⟨rfl, ⟨nd, rfl⟩⟩) | (go_at_call 19; (with_reducible refine (wisplaw01_one.calls 39 t266 t273 _ A15.out).mono ?_); rintro e w' ⟨rfl, ⟨nd, rfl⟩⟩) | (go_at_call 18; (with_reducible refine (wisplaw01_two.calls k 45 a1 a0 t274 _ A18.out).mono ?_); rintro e w' ⟨rfl, ⟨nd, rfl⟩⟩) | (go_at_call 18; (with_reducible refine (wisplaw01_two.calls k 47 a1 a0 t275 _ A20.out).mono ?_); rintro e w' ⟨rfl, ⟨nd, rfl⟩⟩) | (go_at_call 9; (with_reducible refine (wisplaw01_fixed.calls k  t276 _ A22.out).mono ?_); rintro e w' ⟨rfl, ⟨nd, rfl⟩⟩))
                  go_meet
                  case rel => exact ⟨_, (!t276), (by first | rfl | (simp; done) | (simp [*]; done)), H', ⟨by first | omega | exact Nat.le_refl _⟩, by repeat (first | exact Drawn0.refl _ | apply Drawn0.step)⟩
              · rw [if_neg c21] at H
                have c21b0 : (t268 == t275) = false := beq_eq_false_iff_ne.mpr c21
                have c21b1 : (t268 != t275) = true := bne_iff_ne.mpr c21
                as_aux_lemma =>
                  have H' := Aside0.mk H
                  clear H
                  go_wp2_with (first | ((with_reducible refine gate_calleeT (t := 31) rfl ?_); refine goesT_ (some 35) rfl rfl Try.func20 (by kernel_rfl) rfl #[.int .u16 t265, .int .u16 t266, .int .u16 t267] rfl rfl (by (try simp only [List.map_toArray, List.map_cons, List.map_nil]); first | done | rfl | (simp only [List.length_drop, List.length_take]; rfl)) ?_; (with_reducible refine (wisplaw01_NumOrder_1.calls t265 t266 t267 true _ A10.out).mono ?_); rintro e w' ⟨rfl, ⟨nd, rfl⟩⟩; refine ⟨_, rfl, ?_⟩) | (go_at_call 20; (with_reducible refine (wisplaw01_NumOrder_1.calls t268 t266 t269 true _ A12.out).mono ?_); rintro e w' ⟨rfl, ⟨nd, rfl⟩⟩) | (go_at_call 18; (with_reducible refine (wisplaw01_two.calls k 43 a0 a1 t272 _ A14.out).mono ?_); rintro e w' ⟨rfl, ⟨nd, rfl⟩⟩) | (go_at_call 19; (with_reducible refine (wisplaw01_one.calls 39 t266 t273 _ A15.out).mono ?_); rintro e w' ⟨rfl, ⟨nd, rfl⟩⟩) | (go_at_call 18; (with_reducible refine (wisplaw01_two.calls k 45 a1 a0 t274 _ A18.out).mono ?_); rintro e w' ⟨rfl, ⟨nd, rfl⟩⟩) | (go_at_call 18; (with_reducible refine (wisplaw01_two.calls k 47 a1 a0 t275 _ A20.out).mono ?_); rintro e w' ⟨rfl, ⟨nd, rfl⟩⟩))
                  go_meet
                  case rel => exact ⟨_, (true), (by first | rfl | (simp; done) | (simp [*]; done)), H', ⟨by first | omega | exact Nat.le_refl _⟩, by repeat (first | exact Drawn0.refl _ | apply Drawn0.step)⟩
            · rw [if_neg c19] at H
              have c19b0 : (t265 == t274) = false := beq_eq_false_iff_ne.mpr c19
              have c19b1 : (t265 != t274) = true := bne_iff_ne.mpr c19
              as_aux_lemma =>
                have H' := Aside0.mk H
                clear H
                go_wp2_with (first | ((with_reducible refine gate_calleeT (t := 31) rfl ?_); refine goesT_ (some 35) rfl rfl Try.func20 (by kernel_rfl) rfl #[.int .u16 t265, .int .u16 t266, .int .u16 t267] rfl rfl (by (try simp only [List.map_toArray, List.map_cons, List.map_nil]); first | done | rfl | (simp only [List.length_drop, List.length_take]; rfl)) ?_; (with_reducible refine (wisplaw01_NumOrder_1.calls t265 t266 t267 true _ A10.out).mono ?_); rintro e w' ⟨rfl, ⟨nd, rfl⟩⟩; refine ⟨_, rfl, ?_⟩) | (go_at_call 20; (with_reducible refine (wisplaw01_NumOrder_1.calls t268 t266 t269 true _ A12.out).mono ?_); rintro e w' ⟨rfl, ⟨nd, rfl⟩⟩) | (go_at_call 18; (with_reducible refine (wisplaw01_two.calls k 43 a0 a1 t272 _ A14.out).mono ?_); rintro e w' ⟨rfl, ⟨nd, rfl⟩⟩) | (go_at_call 19; (with_reducible refine (wisplaw01_one.calls 39 t266 t273 _ A15.out).mono ?_); rintro e w' ⟨rfl, ⟨nd, rfl⟩⟩) | (go_at_call 18; (with_reducible refine (wisplaw01_two.calls k 45 a1 a0 t274 _ A18.out).mono ?_); rintro e w' ⟨rfl, ⟨nd, rfl⟩⟩))
                go_meet
                case rel => exact ⟨_, (true), (by first | rfl | (simp; done) | (simp [*]; done)), H', ⟨by first | omega | exact Nat.le_refl _⟩, by repeat (first | exact Drawn0.refl _ | apply Drawn0.step)⟩
        · rw [if_neg c16] at H
          have c16b0 : (t272 == t273) = false := beq_eq_false_iff_ne.mpr c16
          have c16b1 : (t272 != t273) = true := bne_iff_ne.mpr c16
          (first | rw [c16b0] | (simp only [i64_w, i32_w]; rw [c16b0]) | skip)
          as_aux_lemma =>
            have H' := Aside0.mk H
            clear H
            go_wp2_with (first | ((with_reducible refine gate_calleeT (t := 31) rfl ?_); refine goesT_ (some 35) rfl rfl Try.func20 (by kernel_rfl) rfl #[.int .u16 t265, .int .u16 t266, .int .u16 t267] rfl rfl (by (try simp only [List.map_toArray, List.map_cons, List.map_nil]); first | done | rfl | (simp only [List.length_drop, List.length_take]; rfl)) ?_; (with_reducible refine (wisplaw01_NumOrder_1.calls t265 t266 t267 true _ A10.out).mono ?_); rintro e w' ⟨rfl, ⟨nd, rfl⟩⟩; refine ⟨_, rfl, ?_⟩) | (go_at_call 20; (with_reducible refine (wisplaw01_NumOrder_1.calls t268 t266 t269 true _ A12.out).mono ?_); rintro e w' ⟨rfl, ⟨nd, rfl⟩⟩) | (go_at_call 18; (with_reducible refine (wisplaw01_two.calls k 43 a0 a1 t272 _ A14.out).mono ?_); rintro e w' ⟨rfl, ⟨nd, rfl⟩⟩) | (go_at_call 19; (with_reducible refine (wisplaw01_one.calls 39 t266 t273 _ A15.out).mono ?_); rintro e w' ⟨rfl, ⟨nd, rfl⟩⟩))
            go_meet
            case rel => exact ⟨_, (true), (by first | rfl | (simp; done) | (simp [*]; done)), H', ⟨by first | omega | exact Nat.le_refl _⟩, by repeat (first | exact Drawn0.refl _ | apply Drawn0.step)⟩
      · replace c13 := Bool.eq_false_iff.mpr c13
        subst c13
        have H1 : (wisplaw01_NumOrder.j0 k a0 a1 a2 t265 t266 t267 t268 true) = some r := by rw [if_neg (show ¬ (false = true) by decide)] at H; exact H
        clear H
        have H := H1
        clear H1
        as_aux_lemma =>
          have H' := Aside0.mk H
          clear H
          go_wp2_with (first | ((with_reducible refine gate_calleeT (t := 31) rfl ?_); refine goesT_ (some 35) rfl rfl Try.func20 (by kernel_rfl) rfl #[.int .u16 t265, .int .u16 t266, .int .u16 t267] rfl rfl (by (try simp only [List.map_toArray, List.map_cons, List.map_nil]); first | done | rfl | (simp only [List.length_drop, List.length_take]; rfl)) ?_; (with_reducible refine (wisplaw01_NumOrder_1.calls t265 t266 t267 true _ A10.out).mono ?_); rintro e w' ⟨rfl, ⟨nd, rfl⟩⟩; refine ⟨_, rfl, ?_⟩) | (go_at_call 20; (with_reducible refine (wisplaw01_NumOrder_1.calls t268 t266 t269 false _ A12.out).mono ?_); rintro e w' ⟨rfl, ⟨nd, rfl⟩⟩))
          go_meet
          case rel => exact ⟨_, (true), (by first | rfl | (simp; done) | (simp [*]; done)), H', ⟨by first | omega | exact Nat.le_refl _⟩, by repeat (first | exact Drawn0.refl _ | apply Drawn0.step)⟩
    · replace c11 := Bool.eq_false_iff.mpr c11
      subst c11
      have H1 : (wisplaw01_NumOrder.j0 k a0 a1 a2 t265 t266 t267 t268 true) = some r := by rw [if_neg (show ¬ (false = true) by decide)] at H; exact H
      clear H
      have H := H1
      clear H1
      as_aux_lemma =>
        have H' := Aside0.mk H
        clear H
        go_wp2_with (first | ((with_reducible refine gate_calleeT (t := 31) rfl ?_); refine goesT_ (some 35) rfl rfl Try.func20 (by kernel_rfl) rfl #[.int .u16 t265, .int .u16 t266, .int .u16 t267] rfl rfl (by (try simp only [List.map_toArray, List.map_cons, List.map_nil]); first | done | rfl | (simp only [List.length_drop, List.length_take]; rfl)) ?_; (with_reducible refine (wisplaw01_NumOrder_1.calls t265 t266 t267 false _ A10.out).mono ?_); rintro e w' ⟨rfl, ⟨nd, rfl⟩⟩; refine ⟨_, rfl, ?_⟩))
        go_meet
        case rel => exact ⟨_, (true), (by first | rfl | (simp; done) | (simp [*]; done)), H', ⟨by first | omega | exact Nat.le_refl _⟩, by repeat (first | exact Drawn0.refl _ | apply Drawn0.step)⟩
  case rest =>
    clear HC9
    try clear c1
    try clear c2
    try clear p2
    try clear c6
    try clear c11
    try clear c13
    try clear c16
    try clear c16b0
    try clear c16b1
    try clear c17
    try clear c17b0
    try clear c17b1
    try clear c17b2
    try clear c18
    try clear c19
    try clear c19b0
    try clear c19b1
    try clear c20
    try clear c21
    try clear c21b0
    try clear c21b1
    obtain ⟨kq, x78_8, rfl, HA, HJ8, ⟨mc8, rfl⟩⟩ := hcut
    cases kq with
    | zero => exact absurd HA.out (by simp [wisplaw01_NumOrder.j0])
    | succ kj8 =>
      have H := HA.out
      clear HA
      simp only [wisplaw01_NumOrder.j0] at H
      by_cases c23 : x78_8 = true
      · subst c23
        have H1 : (some false) = some r := by rw [if_pos rfl] at H; exact H
        clear H
        have H := H1
        clear H1
        as_aux_lemma =>
          obtain rfl := Option.some.inj H
          go_wp2
          go_ret
          exact ⟨by first | rfl | (simp; done) | (simp [*]; done), by repeat (first | exact Drawn0.refl _ | apply Drawn0.step)⟩
      · replace c23 := Bool.eq_false_iff.mpr c23
        subst c23
        have H1 : ((wisplaw01_two.f kj8 30 a0 a1).bind fun t277 => ((wisplaw01_two.f kj8 31 a0 a1).bind fun t278 => (if t265 = 65535 then (if t277 = a0 then (if t278 = a1 then (if t267 = 65535 then (if t277 = a1 then (if t278 = a0 then (if t266 = 65535 then (wisplaw01_NumOrder.j1 kj8 a0 a1 a2 t265 t268 (t278 != a0)) else (wisplaw01_NumOrder.j1 kj8 a0 a1 a2 t265 t268 false)) else (wisplaw01_NumOrder.j1 kj8 a0 a1 a2 t265 t268 true)) else (wisplaw01_NumOrder.j1 kj8 a0 a1 a2 t265 t268 true)) else (if t266 = 65535 then (wisplaw01_NumOrder.j1 kj8 a0 a1 a2 t265 t268 (t278 != a0)) else (wisplaw01_NumOrder.j1 kj8 a0 a1 a2 t265 t268 false))) else (wisplaw01_NumOrder.j1 kj8 a0 a1 a2 t265 t268 true)) else (wisplaw01_NumOrder.j1 kj8 a0 a1 a2 t265 t268 true)) else (if t267 = 65535 then (if t277 = a1 then (if t278 = a0 then (if t266 = 65535 then (if t277 = a0 then (wisplaw01_NumOrder.j1 kj8 a0 a1 a2 t265 t268 (t278 != a0)) else (wisplaw01_NumOrder.j1 kj8 a0 a1 a2 t265 t268 true)) else (wisplaw01_NumOrder.j1 kj8 a0 a1 a2 t265 t268 false)) else (wisplaw01_NumOrder.j1 kj8 a0 a1 a2 t265 t268 true)) else (wisplaw01_NumOrder.j1 kj8 a0 a1 a2 t265 t268 true)) else (if t266 = 65535 then (if t277 = a0 then (wisplaw01_NumOrder.j1 kj8 a0 a1 a2 t265 t268 (t278 != a0)) else (wisplaw01_NumOrder.j1 kj8 a0 a1 a2 t265 t268 true)) else (wisplaw01_NumOrder.j1 kj8 a0 a1 a2 t265 t268 false)))))) = some r := by rw [if_neg (show ¬ (false = true) by decide)] at H; exact H
        clear H
        have H := H1
        clear H1
        replace H := Option.bind_eq_some_iff.mp H
        obtain ⟨t277, A240, H⟩ := H
        replace H : ((wisplaw01_two.f kj8 31 a0 a1).bind fun t278 => (if t265 = 65535 then (if t277 = a0 then (if t278 = a1 then (if t267 = 65535 then (if t277 = a1 then (if t278 = a0 then (if t266 = 65535 then (wisplaw01_NumOrder.j1 kj8 a0 a1 a2 t265 t268 (t278 != a0)) else (wisplaw01_NumOrder.j1 kj8 a0 a1 a2 t265 t268 false)) else (wisplaw01_NumOrder.j1 kj8 a0 a1 a2 t265 t268 true)) else (wisplaw01_NumOrder.j1 kj8 a0 a1 a2 t265 t268 true)) else (if t266 = 65535 then (wisplaw01_NumOrder.j1 kj8 a0 a1 a2 t265 t268 (t278 != a0)) else (wisplaw01_NumOrder.j1 kj8 a0 a1 a2 t265 t268 false))) else (wisplaw01_NumOrder.j1 kj8 a0 a1 a2 t265 t268 true)) else (wisplaw01_NumOrder.j1 kj8 a0 a1 a2 t265 t268 true)) else (if t267 = 65535 then (if t277 = a1 then (if t278 = a0 then (if t266 = 65535 then (if t277 = a0 then (wisplaw01_NumOrder.j1 kj8 a0 a1 a2 t265 t268 (t278 != a0)) else (wisplaw01_NumOrder.j1 kj8 a0 a1 a2 t265 t268 true)) else (wisplaw01_NumOrder.j1 kj8 a0 a1 a2 t265 t268 false)) else (wisplaw01_NumOrder.j1 kj8 a0 a1 a2 t265 t268 true)) else (wisplaw01_NumOrder.j1 kj8 a0 a1 a2 t265 t268 true)) else (if t266 = 65535 then (if t277 = a0 then (wisplaw01_NumOrder.j1 kj8 a0 a1 a2 t265 t268 (t278 != a0)) else (wisplaw01_NumOrder.j1 kj8 a0 a1 a2 t265 t268 true)) else (wisplaw01_NumOrder.j1 kj8 a0 a1 a2 t265 t268 false))))) = some r := H
        have A24 := Aside0.mk A240
        clear A240
        replace H := Option.bind_eq_some_iff.mp H
        obtain ⟨t278, A250, H⟩ := H
        replace H : (if t265 = 65535 then (if t277 = a0 then (if t278 = a1 then (if t267 = 65535 then (if t277 = a1 then (if t278 = a0 then (if t266 = 65535 then (wisplaw01_NumOrder.j1 kj8 a0 a1 a2 t265 t268 (t278 != a0)) else (wisplaw01_NumOrder.j1 kj8 a0 a1 a2 t265 t268 false)) else (wisplaw01_NumOrder.j1 kj8 a0 a1 a2 t265 t268 true)) else (wisplaw01_NumOrder.j1 kj8 a0 a1 a2 t265 t268 true)) else (if t266 = 65535 then (wisplaw01_NumOrder.j1 kj8 a0 a1 a2 t265 t268 (t278 != a0)) else (wisplaw01_NumOrder.j1 kj8 a0 a1 a2 t265 t268 false))) else (wisplaw01_NumOrder.j1 kj8 a0 a1 a2 t265 t268 true)) else (wisplaw01_NumOrder.j1 kj8 a0 a1 a2 t265 t268 true)) else (if t267 = 65535 then (if t277 = a1 then (if t278 = a0 then (if t266 = 65535 then (if t277 = a0 then (wisplaw01_NumOrder.j1 kj8 a0 a1 a2 t265 t268 (t278 != a0)) else (wisplaw01_NumOrder.j1 kj8 a0 a1 a2 t265 t268 true)) else (wisplaw01_NumOrder.j1 kj8 a0 a1 a2 t265 t268 false)) else (wisplaw01_NumOrder.j1 kj8 a0 a1 a2 t265 t268 true)) else (wisplaw01_NumOrder.j1 kj8 a0 a1 a2 t265 t268 true)) else (if t266 = 65535 then (if t277 = a0 then (wisplaw01_NumOrder.j1 kj8 a0 a1 a2 t265 t268 (t278 != a0)) else (wisplaw01_NumOrder.j1 kj8 a0 a1 a2 t265 t268 true)) else (wisplaw01_NumOrder.j1 kj8 a0 a1 a2 t265 t268 false)))) = some r := H
        have A25 := Aside0.mk A250
        clear A250
        have HC26 := Aside0.mk H
        clear H
        go_upto_region 6 with (first | ((with_reducible refine gate_callee (f := 18) rfl ?_); refine goesL_ (some 81) rfl rfl Try.func18 (by kernel_rfl) rfl #[.int .i64 30, .int .u16 a0, .int .u16 a1] rfl (by (try simp only [List.map_toArray, List.map_cons, List.map_nil]); first | done | rfl | (simp only [List.length_drop, List.length_take]; rfl)) ?_; (with_reducible refine (wisplaw01_two.calls kj8 30 a0 a1 t277 _ A24.out).mono ?_); rintro e w' ⟨rfl, ⟨nd, rfl⟩⟩; refine ⟨_, rfl, ?_⟩) | ((with_reducible refine gate_callee (f := 18) rfl ?_); refine goesL_ (some 84) rfl rfl Try.func18 (by kernel_rfl) rfl #[.int .i64 31, .int .u16 a0, .int .u16 a1] rfl (by (try simp only [List.map_toArray, List.map_cons, List.map_nil]); first | done | rfl | (simp only [List.length_drop, List.length_take]; rfl)) ?_; (with_reducible refine (wisplaw01_two.calls kj8 31 a0 a1 t278 _ A25.out).mono ?_); rintro e w' ⟨rfl, ⟨nd, rfl⟩⟩; refine ⟨_, rfl, ?_⟩))
        (try simp only [Act.put, List.setIfInBounds_toArray, List.set_cons_zero, List.set_cons_succ])
        go_cut [124] (fun v124 wc => ∃ (kq : Nat) (x124_25 : Bool), v124 = .bool x124_25 ∧ Aside0 (wisplaw01_NumOrder.j1 kq a0 a1 a2 t265 t268 x124_25 = some r) ∧ Aside0 (kq ≤ kj8) ∧ Drawn0 w wc)
        case first =>
          have H := HC26.out
          clear HC26
          by_cases c27 : t265 = 65535
          · rw [if_pos c27] at H
            have c27b0 : (t265 == 65535) = true := beq_iff_eq.mpr c27
            have c27b1 : (t265 != 65535) = false := bne_eq_false_iff_eq.mpr c27
            clear c27
            (first | rw [c27b0] | (simp only [i64_w, i32_w]; rw [c27b0]) | skip)
            by_cases c28 : t277 = a0
            · rw [if_pos c28] at H
              have c28b0 : (t277 == a0) = true := beq_iff_eq.mpr c28
              have c28b1 : (t277 != a0) = false := bne_eq_false_iff_eq.mpr c28
              clear c28
              by_cases c29 : t278 = a1
              · rw [if_pos c29] at H
                have c29b0 : (t278 == a1) = true := beq_iff_eq.mpr c29
                have c29b1 : (t278 != a1) = false := bne_eq_false_iff_eq.mpr c29
                clear c29
                by_cases c30 : t267 = 65535
                · rw [if_pos c30] at H
                  have c30b0 : (t267 == 65535) = true := beq_iff_eq.mpr c30
                  have c30b1 : (t267 != 65535) = false := bne_eq_false_iff_eq.mpr c30
                  clear c30
                  by_cases c31 : t277 = a1
                  · rw [if_pos c31] at H
                    have c31b0 : (t277 == a1) = true := beq_iff_eq.mpr c31
                    have c31b1 : (t277 != a1) = false := bne_eq_false_iff_eq.mpr c31
                    clear c31
                    by_cases c32 : t278 = a0
                    · rw [if_pos c32] at H
                      have c32b0 : (t278 == a0) = true := beq_iff_eq.mpr c32
                      have c32b1 : (t278 != a0) = false := bne_eq_false_iff_eq.mpr c32
                      clear c32
                      by_cases c33 : t266 = 65535
                      · rw [if_pos c33] at H
                        have c33b0 : (t266 == 65535) = true := beq_iff_eq.mpr c33
                        have c33b1 : (t266 != 65535) = false := bne_eq_false_iff_eq.mpr c33
                        clear c33
                        as_aux_lemma =>
                          have H' := Aside0.mk H
                          clear H
                          go_wp2
                          go_meet
                          case rel => exact ⟨_, ((t278 != a0)), (by first | rfl | (simp; done) | (simp [*]; done)), H', ⟨by have := HJ8.out; first | omega | exact Nat.le_refl _⟩, by repeat (first | exact Drawn0.refl _ | apply Drawn0.step)⟩
                      · rw [if_neg c33] at H
                        have c33b0 : (t266 == 65535) = false := beq_eq_false_iff_ne.mpr c33
                        have c33b1 : (t266 != 65535) = true := bne_iff_ne.mpr c33
                        as_aux_lemma =>
                          have H' := Aside0.mk H
                          clear H
                          go_wp2
                          go_meet
                          case rel => exact ⟨_, (false), (by first | rfl | (simp; done) | (simp [*]; done)), H', ⟨by have := HJ8.out; first | omega | exact Nat.le_refl _⟩, by repeat (first | exact Drawn0.refl _ | apply Drawn0.step)⟩
                    · rw [if_neg c32] at H
                      have c32b0 : (t278 == a0) = false := beq_eq_false_iff_ne.mpr c32
                      have c32b1 : (t278 != a0) = true := bne_iff_ne.mpr c32
                      as_aux_lemma =>
                        have H' := Aside0.mk H
                        clear H
                        go_wp2
                        go_meet
                        case rel => exact ⟨_, (true), (by first | rfl | (simp; done) | (simp [*]; done)), H', ⟨by have := HJ8.out; first | omega | exact Nat.le_refl _⟩, by repeat (first | exact Drawn0.refl _ | apply Drawn0.step)⟩
                  · rw [if_neg c31] at H
                    have c31b0 : (t277 == a1) = false := beq_eq_false_iff_ne.mpr c31
                    have c31b1 : (t277 != a1) = true := bne_iff_ne.mpr c31
                    as_aux_lemma =>
                      have H' := Aside0.mk H
                      clear H
                      go_wp2
                      go_meet
                      case rel => exact ⟨_, (true), (by first | rfl | (simp; done) | (simp [*]; done)), H', ⟨by have := HJ8.out; first | omega | exact Nat.le_refl _⟩, by repeat (first | exact Drawn0.refl _ | apply Drawn0.step)⟩
                · rw [if_neg c30] at H
                  have c30b0 : (t267 == 65535) = false := beq_eq_false_iff_ne.mpr c30
                  have c30b1 : (t267 != 65535) = true := bne_iff_ne.mpr c30
                  by_cases c34 : t266 = 65535
                  · rw [if_pos c34] at H
                    have c34b0 : (t266 == 65535) = true := beq_iff_eq.mpr c34
                    have c34b1 : (t266 != 65535) = false := bne_eq_false_iff_eq.mpr c34
                    clear c34
                    as_aux_lemma =>
                      have H' := Aside0.mk H
                      clear H
                      go_wp2
                      go_meet
                      case rel => exact ⟨_, ((t278 != a0)), (by first | rfl | (simp; done) | (simp [*]; done)), H', ⟨by have := HJ8.out; first | omega | exact Nat.le_refl _⟩, by repeat (first | exact Drawn0.refl _ | apply Drawn0.step)⟩
                  · rw [if_neg c34] at H
                    have c34b0 : (t266 == 65535) = false := beq_eq_false_iff_ne.mpr c34
                    have c34b1 : (t266 != 65535) = true := bne_iff_ne.mpr c34
                    as_aux_lemma =>
                      have H' := Aside0.mk H
                      clear H
                      go_wp2
                      go_meet
                      case rel => exact ⟨_, (false), (by first | rfl | (simp; done) | (simp [*]; done)), H', ⟨by have := HJ8.out; first | omega | exact Nat.le_refl _⟩, by repeat (first | exact Drawn0.refl _ | apply Drawn0.step)⟩
              · rw [if_neg c29] at H
                have c29b0 : (t278 == a1) = false := beq_eq_false_iff_ne.mpr c29
                have c29b1 : (t278 != a1) = true := bne_iff_ne.mpr c29
                as_aux_lemma =>
                  have H' := Aside0.mk H
                  clear H
                  go_wp2
                  go_meet
                  case rel => exact ⟨_, (true), (by first | rfl | (simp; done) | (simp [*]; done)), H', ⟨by have := HJ8.out; first | omega | exact Nat.le_refl _⟩, by repeat (first | exact Drawn0.refl _ | apply Drawn0.step)⟩
            · rw [if_neg c28] at H
              have c28b0 : (t277 == a0) = false := beq_eq_false_iff_ne.mpr c28
              have c28b1 : (t277 != a0) = true := bne_iff_ne.mpr c28
              as_aux_lemma =>
                have H' := Aside0.mk H
                clear H
                go_wp2
                go_meet
                case rel => exact ⟨_, (true), (by first | rfl | (simp; done) | (simp [*]; done)), H', ⟨by have := HJ8.out; first | omega | exact Nat.le_refl _⟩, by repeat (first | exact Drawn0.refl _ | apply Drawn0.step)⟩
          · rw [if_neg c27] at H
            have c27b0 : (t265 == 65535) = false := beq_eq_false_iff_ne.mpr c27
            have c27b1 : (t265 != 65535) = true := bne_iff_ne.mpr c27
            (first | rw [c27b0] | (simp only [i64_w, i32_w]; rw [c27b0]) | skip)
            by_cases c35 : t267 = 65535
            · rw [if_pos c35] at H
              have c35b0 : (t267 == 65535) = true := beq_iff_eq.mpr c35
              have c35b1 : (t267 != 65535) = false := bne_eq_false_iff_eq.mpr c35
              clear c35
              by_cases c36 : t277 = a1
              · rw [if_pos c36] at H
                have c36b0 : (t277 == a1) = true := beq_iff_eq.mpr c36
                have c36b1 : (t277 != a1) = false := bne_eq_false_iff_eq.mpr c36
                clear c36
                by_cases c37 : t278 = a0
                · rw [if_pos c37] at H
                  have c37b0 : (t278 == a0) = true := beq_iff_eq.mpr c37
                  have c37b1 : (t278 != a0) = false := bne_eq_false_iff_eq.mpr c37
                  clear c37
                  by_cases c38 : t266 = 65535
                  · rw [if_pos c38] at H
                    have c38b0 : (t266 == 65535) = true := beq_iff_eq.mpr c38
                    have c38b1 : (t266 != 65535) = false := bne_eq_false_iff_eq.mpr c38
                    clear c38
                    by_cases c39 : t277 = a0
                    · rw [if_pos c39] at H
                      have c39b0 : (t277 == a0) = true := beq_iff_eq.mpr c39
                      have c39b1 : (t277 != a0) = false := bne_eq_false_iff_eq.mpr c39
                      clear c39
                      as_aux_lemma =>
                        have H' := Aside0.mk H
                        clear H
                        go_wp2
                        go_meet
                        case rel => exact ⟨_, ((t278 != a0)), (by first | rfl | (simp; done) | (simp [*]; done)), H', ⟨by have := HJ8.out; first | omega | exact Nat.le_refl _⟩, by repeat (first | exact Drawn0.refl _ | apply Drawn0.step)⟩
                    · rw [if_neg c39] at H
                      have c39b0 : (t277 == a0) = false := beq_eq_false_iff_ne.mpr c39
                      have c39b1 : (t277 != a0) = true := bne_iff_ne.mpr c39
                      as_aux_lemma =>
                        have H' := Aside0.mk H
                        clear H
                        go_wp2
                        go_meet
                        case rel => exact ⟨_, (true), (by first | rfl | (simp; done) | (simp [*]; done)), H', ⟨by have := HJ8.out; first | omega | exact Nat.le_refl _⟩, by repeat (first | exact Drawn0.refl _ | apply Drawn0.step)⟩
                  · rw [if_neg c38] at H
                    have c38b0 : (t266 == 65535) = false := beq_eq_false_iff_ne.mpr c38
                    have c38b1 : (t266 != 65535) = true := bne_iff_ne.mpr c38
                    as_aux_lemma =>
                      have H' := Aside0.mk H
                      clear H
                      go_wp2
                      go_meet
                      case rel => exact ⟨_, (false), (by first | rfl | (simp; done) | (simp [*]; done)), H', ⟨by have := HJ8.out; first | omega | exact Nat.le_refl _⟩, by repeat (first | exact Drawn0.refl _ | apply Drawn0.step)⟩
                · rw [if_neg c37] at H
                  have c37b0 : (t278 == a0) = false := beq_eq_false_iff_ne.mpr c37
                  have c37b1 : (t278 != a0) = true := bne_iff_ne.mpr c37
                  as_aux_lemma =>
                    have H' := Aside0.mk H
                    clear H
                    go_wp2
                    go_meet
                    case rel => exact ⟨_, (true), (by first | rfl | (simp; done) | (simp [*]; done)), H', ⟨by have := HJ8.out; first | omega | exact Nat.le_refl _⟩, by repeat (first | exact Drawn0.refl _ | apply Drawn0.step)⟩
              · rw [if_neg c36] at H
                have c36b0 : (t277 == a1) = false := beq_eq_false_iff_ne.mpr c36
                have c36b1 : (t277 != a1) = true := bne_iff_ne.mpr c36
                as_aux_lemma =>
                  have H' := Aside0.mk H
                  clear H
                  go_wp2
                  go_meet
                  case rel => exact ⟨_, (true), (by first | rfl | (simp; done) | (simp [*]; done)), H', ⟨by have := HJ8.out; first | omega | exact Nat.le_refl _⟩, by repeat (first | exact Drawn0.refl _ | apply Drawn0.step)⟩
            · rw [if_neg c35] at H
              have c35b0 : (t267 == 65535) = false := beq_eq_false_iff_ne.mpr c35
              have c35b1 : (t267 != 65535) = true := bne_iff_ne.mpr c35
              by_cases c40 : t266 = 65535
              · rw [if_pos c40] at H
                have c40b0 : (t266 == 65535) = true := beq_iff_eq.mpr c40
                have c40b1 : (t266 != 65535) = false := bne_eq_false_iff_eq.mpr c40
                clear c40
                by_cases c41 : t277 = a0
                · rw [if_pos c41] at H
                  have c41b0 : (t277 == a0) = true := beq_iff_eq.mpr c41
                  have c41b1 : (t277 != a0) = false := bne_eq_false_iff_eq.mpr c41
                  clear c41
                  as_aux_lemma =>
                    have H' := Aside0.mk H
                    clear H
                    go_wp2
                    go_meet
                    case rel => exact ⟨_, ((t278 != a0)), (by first | rfl | (simp; done) | (simp [*]; done)), H', ⟨by have := HJ8.out; first | omega | exact Nat.le_refl _⟩, by repeat (first | exact Drawn0.refl _ | apply Drawn0.step)⟩
                · rw [if_neg c41] at H
                  have c41b0 : (t277 == a0) = false := beq_eq_false_iff_ne.mpr c41
                  have c41b1 : (t277 != a0) = true := bne_iff_ne.mpr c41
                  as_aux_lemma =>
                    have H' := Aside0.mk H
                    clear H
                    go_wp2
                    go_meet
                    case rel => exact ⟨_, (true), (by first | rfl | (simp; done) | (simp [*]; done)), H', ⟨by have := HJ8.out; first | omega | exact Nat.le_refl _⟩, by repeat (first | exact Drawn0.refl _ | apply Drawn0.step)⟩
              · rw [if_neg c40] at H
                have c40b0 : (t266 == 65535) = false := beq_eq_false_iff_ne.mpr c40
                have c40b1 : (t266 != 65535) = true := bne_iff_ne.mpr c40
                as_aux_lemma =>
                  have H' := Aside0.mk H
                  clear H
                  go_wp2
                  go_meet
                  case rel => exact ⟨_, (false), (by first | rfl | (simp; done) | (simp [*]; done)), H', ⟨by have := HJ8.out; first | omega | exact Nat.le_refl _⟩, by repeat (first | exact Drawn0.refl _ | apply Drawn0.step)⟩
        case rest =>
          clear HC26
          try clear c1
          try clear c2
          try clear p2
          try clear c3
          try clear c4
          try clear c6
          try clear c8
          try clear c11
          try clear c13
          try clear c16
          try clear c16b0
          try clear c16b1
          try clear c17
          try clear c17b0
          try clear c17b1
          try clear c17b2
          try clear c18
          try clear c19
          try clear c19b0
          try clear c19b1
          try clear c20
          try clear c21
          try clear c21b0
          try clear c21b1
          try clear c23
          try clear c27
          try clear c27b0
          try clear c27b1
          try clear c28
          try clear c28b0
          try clear c28b1
          try clear c29
          try clear c29b0
          try clear c29b1
          try clear c30
          try clear c30b0
          try clear c30b1
          try clear c31
          try clear c31b0
          try clear c31b1
          try clear c32
          try clear c32b0
          try clear c32b1
          try clear c33
          try clear c33b0
          try clear c33b1
          try clear c34
          try clear c34b0
          try clear c34b1
          try clear c35
          try clear c35b0
          try clear c35b1
          try clear c36
          try clear c36b0
          try clear c36b1
          try clear c37
          try clear c37b0
          try clear c37b1
          try clear c38
          try clear c38b0
          try clear c38b1
          try clear c39
          try clear c39b0
          try clear c39b1
          try clear c40
          try clear c40b0
          try clear c40b1
          try clear c41
          try clear c41b0
          try clear c41b1
          try clear p2
          obtain ⟨kq, x124_25, rfl, HA, HJ25, ⟨mc25, rfl⟩⟩ := hcut
          cases kq with
          | zero => exact absurd HA.out (by simp [wisplaw01_NumOrder.j1])
          | succ kj25 =>
            have H := HA.out
            clear HA
            simp only [wisplaw01_NumOrder.j1] at H
            by_cases c42 : x124_25 = true
            · subst c42
              have H1 : (some false) = some r := by rw [if_pos rfl] at H; exact H
              clear H
              have H := H1
              clear H1
              as_aux_lemma =>
                obtain rfl := Option.some.inj H
                go_wp2
                go_ret
                exact ⟨by first | rfl | (simp; done) | (simp [*]; done), by repeat (first | exact Drawn0.refl _ | apply Drawn0.step)⟩
            · replace c42 := Bool.eq_false_iff.mpr c42
              subst c42
              have H1 : (if t265 = 65535 then ((wisplaw01_two.f kj25 44 a1 a2).bind fun t279 => (if t279 = 65535 then ((wisplaw01_two.f kj25 44 a0 a2).bind fun t280 => (if t280 = 65535 then (if t268 = 65535 then ((wisplaw01_two.f kj25 46 a1 a2).bind fun t281 => (if t281 = 65535 then ((wisplaw01_two.f kj25 46 a0 a2).bind fun t282 => (wisplaw01_NumOrder.j2 kj25 a0 a1 t265 t268 (t282 != 65535))) else (wisplaw01_NumOrder.j2 kj25 a0 a1 t265 t268 false))) else (wisplaw01_NumOrder.j2 kj25 a0 a1 t265 t268 false)) else (wisplaw01_NumOrder.j2 kj25 a0 a1 t265 t268 true))) else (if t268 = 65535 then ((wisplaw01_two.f kj25 46 a1 a2).bind fun t283 => (if t283 = 65535 then ((wisplaw01_two.f kj25 46 a0 a2).bind fun t284 => (wisplaw01_NumOrder.j2 kj25 a0 a1 t265 t268 (t284 != 65535))) else (wisplaw01_NumOrder.j2 kj25 a0 a1 t265 t268 false))) else (wisplaw01_NumOrder.j2 kj25 a0 a1 t265 t268 false)))) else (if t268 = 65535 then ((wisplaw01_two.f kj25 46 a1 a2).bind fun t285 => (if t285 = 65535 then ((wisplaw01_two.f kj25 46 a0 a2).bind fun t286 => (wisplaw01_NumOrder.j2 kj25 a0 a1 t265 t268 (t286 != 65535))) else (wisplaw01_NumOrder.j2 kj25 a0 a1 t265 t268 false))) else (wisplaw01_NumOrder.j2 kj25 a0 a1 t265 t268 false))) = some r := by rw [if_neg (show ¬ (false = true) by decide)] at H; exact H
              clear H
              have H := H1
              clear H1
              have HC43 := Aside0.mk H
              clear H
              go_upto_region 8 with (fail)
              go_cut [154] (fun v154 wc => ∃ (kq : Nat) (x154_42 : Bool), v154 = .bool x154_42 ∧ Aside0 (wisplaw01_NumOrder.j2 kq a0 a1 t265 t268 x154_42 = some r) ∧ Aside0 (kq ≤ kj25) ∧ Drawn0 w wc)
              case first =>
                have H := HC43.out
                clear HC43
                by_cases c44 : t265 = 65535
                · rw [if_pos c44] at H
                  have c44b0 : (t265 == 65535) = true := beq_iff_eq.mpr c44
                  have c44b1 : (t265 != 65535) = false := bne_eq_false_iff_eq.mpr c44
                  clear c44
                  (first | rw [c44b0] | (simp only [i64_w, i32_w]; rw [c44b0]) | skip)
                  replace H := Option.bind_eq_some_iff.mp H
                  obtain ⟨t279, A450, H⟩ := H
                  replace H : (if t279 = 65535 then ((wisplaw01_two.f kj25 44 a0 a2).bind fun t280 => (if t280 = 65535 then (if t268 = 65535 then ((wisplaw01_two.f kj25 46 a1 a2).bind fun t281 => (if t281 = 65535 then ((wisplaw01_two.f kj25 46 a0 a2).bind fun t282 => (wisplaw01_NumOrder.j2 kj25 a0 a1 t265 t268 (t282 != 65535))) else (wisplaw01_NumOrder.j2 kj25 a0 a1 t265 t268 false))) else (wisplaw01_NumOrder.j2 kj25 a0 a1 t265 t268 false)) else (wisplaw01_NumOrder.j2 kj25 a0 a1 t265 t268 true))) else (if t268 = 65535 then ((wisplaw01_two.f kj25 46 a1 a2).bind fun t283 => (if t283 = 65535 then ((wisplaw01_two.f kj25 46 a0 a2).bind fun t284 => (wisplaw01_NumOrder.j2 kj25 a0 a1 t265 t268 (t284 != 65535))) else (wisplaw01_NumOrder.j2 kj25 a0 a1 t265 t268 false))) else (wisplaw01_NumOrder.j2 kj25 a0 a1 t265 t268 false))) = some r := H
                  have A45 := Aside0.mk A450
                  clear A450
                  by_cases c46 : t279 = 65535
                  · rw [if_pos c46] at H
                    have c46b0 : (t279 == 65535) = true := beq_iff_eq.mpr c46
                    have c46b1 : (t279 != 65535) = false := bne_eq_false_iff_eq.mpr c46
                    clear c46
                    replace H := Option.bind_eq_some_iff.mp H
                    obtain ⟨t280, A470, H⟩ := H
                    replace H : (if t280 = 65535 then (if t268 = 65535 then ((wisplaw01_two.f kj25 46 a1 a2).bind fun t281 => (if t281 = 65535 then ((wisplaw01_two.f kj25 46 a0 a2).bind fun t282 => (wisplaw01_NumOrder.j2 kj25 a0 a1 t265 t268 (t282 != 65535))) else (wisplaw01_NumOrder.j2 kj25 a0 a1 t265 t268 false))) else (wisplaw01_NumOrder.j2 kj25 a0 a1 t265 t268 false)) else (wisplaw01_NumOrder.j2 kj25 a0 a1 t265 t268 true)) = some r := H
                    have A47 := Aside0.mk A470
                    clear A470
                    by_cases c48 : t280 = 65535
                    · rw [if_pos c48] at H
                      have c48b0 : (t280 == 65535) = true := beq_iff_eq.mpr c48
                      have c48b1 : (t280 != 65535) = false := bne_eq_false_iff_eq.mpr c48
                      clear c48
                      by_cases c49 : t268 = 65535
                      · rw [if_pos c49] at H
                        have c49b0 : (t268 == 65535) = true := beq_iff_eq.mpr c49
                        have c49b1 : (t268 != 65535) = false := bne_eq_false_iff_eq.mpr c49
                        clear c49
                        replace H := Option.bind_eq_some_iff.mp H
                        obtain ⟨t281, A500, H⟩ := H
                        replace H : (if t281 = 65535 then ((wisplaw01_two.f kj25 46 a0 a2).bind fun t282 => (wisplaw01_NumOrder.j2 kj25 a0 a1 t265 t268 (t282 != 65535))) else (wisplaw01_NumOrder.j2 kj25 a0 a1 t265 t268 false)) = some r := H
                        have A50 := Aside0.mk A500
                        clear A500
                        by_cases c51 : t281 = 65535
                        · rw [if_pos c51] at H
                          have c51b0 : (t281 == 65535) = true := beq_iff_eq.mpr c51
                          have c51b1 : (t281 != 65535) = false := bne_eq_false_iff_eq.mpr c51
                          clear c51
                          replace H := Option.bind_eq_some_iff.mp H
                          obtain ⟨t282, A520, H⟩ := H
                          replace H : (wisplaw01_NumOrder.j2 kj25 a0 a1 t265 t268 (t282 != 65535)) = some r := H
                          have A52 := Aside0.mk A520
                          clear A520
                          as_aux_lemma =>
                            have H' := Aside0.mk H
                            clear H
                            go_wp2_with (first | (go_at_call 18; (with_reducible refine (wisplaw01_two.calls kj25 44 a1 a2 t279 _ A45.out).mono ?_); rintro e w' ⟨rfl, ⟨nd, rfl⟩⟩) | (go_at_call 18; (with_reducible refine (wisplaw01_two.calls kj25 44 a0 a2 t280 _ A47.out).mono ?_); rintro e w' ⟨rfl, ⟨nd, rfl⟩⟩) | (go_at_call 18; (with_reducible refine (wisplaw01_two.calls kj25 46 a1 a2 t281 _ A50.out).mono ?_); rintro e w' ⟨rfl, ⟨nd, rfl⟩⟩) | (go_at_call 18; (with_reducible refine (wisplaw01_two.calls kj25 46 a0 a2 t282 _ A52.out).mono ?_); rintro e w' ⟨rfl, ⟨nd, rfl⟩⟩))
                            go_meet
                            case rel => exact ⟨_, ((t282 != 65535)), (by first | rfl | (simp; done) | (simp [*]; done)), H', ⟨by have := HJ8.out; have := HJ25.out; first | omega | exact Nat.le_refl _⟩, by repeat (first | exact Drawn0.refl _ | apply Drawn0.step)⟩
                        · rw [if_neg c51] at H
                          have c51b0 : (t281 == 65535) = false := beq_eq_false_iff_ne.mpr c51
                          have c51b1 : (t281 != 65535) = true := bne_iff_ne.mpr c51
                          as_aux_lemma =>
                            have H' := Aside0.mk H
                            clear H
                            go_wp2_with (first | (go_at_call 18; (with_reducible refine (wisplaw01_two.calls kj25 44 a1 a2 t279 _ A45.out).mono ?_); rintro e w' ⟨rfl, ⟨nd, rfl⟩⟩) | (go_at_call 18; (with_reducible refine (wisplaw01_two.calls kj25 44 a0 a2 t280 _ A47.out).mono ?_); rintro e w' ⟨rfl, ⟨nd, rfl⟩⟩) | (go_at_call 18; (with_reducible refine (wisplaw01_two.calls kj25 46 a1 a2 t281 _ A50.out).mono ?_); rintro e w' ⟨rfl, ⟨nd, rfl⟩⟩))
                            go_meet
                            case rel => exact ⟨_, (false), (by first | rfl | (simp; done) | (simp [*]; done)), H', ⟨by have := HJ8.out; have := HJ25.out; first | omega | exact Nat.le_refl _⟩, by repeat (first | exact Drawn0.refl _ | apply Drawn0.step)⟩
                      · rw [if_neg c49] at H
                        have c49b0 : (t268 == 65535) = false := beq_eq_false_iff_ne.mpr c49
                        have c49b1 : (t268 != 65535) = true := bne_iff_ne.mpr c49
                        as_aux_lemma =>
                          have H' := Aside0.mk H
                          clear H
                          go_wp2_with (first | (go_at_call 18; (with_reducible refine (wisplaw01_two.calls kj25 44 a1 a2 t279 _ A45.out).mono ?_); rintro e w' ⟨rfl, ⟨nd, rfl⟩⟩) | (go_at_call 18; (with_reducible refine (wisplaw01_two.calls kj25 44 a0 a2 t280 _ A47.out).mono ?_); rintro e w' ⟨rfl, ⟨nd, rfl⟩⟩))
                          go_meet
                          case rel => exact ⟨_, (false), (by first | rfl | (simp; done) | (simp [*]; done)), H', ⟨by have := HJ8.out; have := HJ25.out; first | omega | exact Nat.le_refl _⟩, by repeat (first | exact Drawn0.refl _ | apply Drawn0.step)⟩
                    · rw [if_neg c48] at H
                      have c48b0 : (t280 == 65535) = false := beq_eq_false_iff_ne.mpr c48
                      have c48b1 : (t280 != 65535) = true := bne_iff_ne.mpr c48
                      as_aux_lemma =>
                        have H' := Aside0.mk H
                        clear H
                        go_wp2_with (first | (go_at_call 18; (with_reducible refine (wisplaw01_two.calls kj25 44 a1 a2 t279 _ A45.out).mono ?_); rintro e w' ⟨rfl, ⟨nd, rfl⟩⟩) | (go_at_call 18; (with_reducible refine (wisplaw01_two.calls kj25 44 a0 a2 t280 _ A47.out).mono ?_); rintro e w' ⟨rfl, ⟨nd, rfl⟩⟩))
                        go_meet
                        case rel => exact ⟨_, (true), (by first | rfl | (simp; done) | (simp [*]; done)), H', ⟨by have := HJ8.out; have := HJ25.out; first | omega | exact Nat.le_refl _⟩, by repeat (first | exact Drawn0.refl _ | apply Drawn0.step)⟩
                  · rw [if_neg c46] at H
                    have c46b0 : (t279 == 65535) = false := beq_eq_false_iff_ne.mpr c46
                    have c46b1 : (t279 != 65535) = true := bne_iff_ne.mpr c46
                    by_cases c53 : t268 = 65535
                    · rw [if_pos c53] at H
                      have c53b0 : (t268 == 65535) = true := beq_iff_eq.mpr c53
                      have c53b1 : (t268 != 65535) = false := bne_eq_false_iff_eq.mpr c53
                      clear c53
                      replace H := Option.bind_eq_some_iff.mp H
                      obtain ⟨t283, A540, H⟩ := H
                      replace H : (if t283 = 65535 then ((wisplaw01_two.f kj25 46 a0 a2).bind fun t284 => (wisplaw01_NumOrder.j2 kj25 a0 a1 t265 t268 (t284 != 65535))) else (wisplaw01_NumOrder.j2 kj25 a0 a1 t265 t268 false)) = some r := H
                      have A54 := Aside0.mk A540
                      clear A540
                      by_cases c55 : t283 = 65535
                      · rw [if_pos c55] at H
                        have c55b0 : (t283 == 65535) = true := beq_iff_eq.mpr c55
                        have c55b1 : (t283 != 65535) = false := bne_eq_false_iff_eq.mpr c55
                        clear c55
                        replace H := Option.bind_eq_some_iff.mp H
                        obtain ⟨t284, A560, H⟩ := H
                        replace H : (wisplaw01_NumOrder.j2 kj25 a0 a1 t265 t268 (t284 != 65535)) = some r := H
                        have A56 := Aside0.mk A560
                        clear A560
                        as_aux_lemma =>
                          have H' := Aside0.mk H
                          clear H
                          go_wp2_with (first | (go_at_call 18; (with_reducible refine (wisplaw01_two.calls kj25 44 a1 a2 t279 _ A45.out).mono ?_); rintro e w' ⟨rfl, ⟨nd, rfl⟩⟩) | (go_at_call 18; (with_reducible refine (wisplaw01_two.calls kj25 46 a1 a2 t283 _ A54.out).mono ?_); rintro e w' ⟨rfl, ⟨nd, rfl⟩⟩) | (go_at_call 18; (with_reducible refine (wisplaw01_two.calls kj25 46 a0 a2 t284 _ A56.out).mono ?_); rintro e w' ⟨rfl, ⟨nd, rfl⟩⟩))
                          go_meet
                          case rel => exact ⟨_, ((t284 != 65535)), (by first | rfl | (simp; done) | (simp [*]; done)), H', ⟨by have := HJ8.out; have := HJ25.out; first | omega | exact Nat.le_refl _⟩, by repeat (first | exact Drawn0.refl _ | apply Drawn0.step)⟩
                      · rw [if_neg c55] at H
                        have c55b0 : (t283 == 65535) = false := beq_eq_false_iff_ne.mpr c55
                        have c55b1 : (t283 != 65535) = true := bne_iff_ne.mpr c55
                        as_aux_lemma =>
                          have H' := Aside0.mk H
                          clear H
                          go_wp2_with (first | (go_at_call 18; (with_reducible refine (wisplaw01_two.calls kj25 44 a1 a2 t279 _ A45.out).mono ?_); rintro e w' ⟨rfl, ⟨nd, rfl⟩⟩) | (go_at_call 18; (with_reducible refine (wisplaw01_two.calls kj25 46 a1 a2 t283 _ A54.out).mono ?_); rintro e w' ⟨rfl, ⟨nd, rfl⟩⟩))
                          go_meet
                          case rel => exact ⟨_, (false), (by first | rfl | (simp; done) | (simp [*]; done)), H', ⟨by have := HJ8.out; have := HJ25.out; first | omega | exact Nat.le_refl _⟩, by repeat (first | exact Drawn0.refl _ | apply Drawn0.step)⟩
                    · rw [if_neg c53] at H
                      have c53b0 : (t268 == 65535) = false := beq_eq_false_iff_ne.mpr c53
                      have c53b1 : (t268 != 65535) = true := bne_iff_ne.mpr c53
                      as_aux_lemma =>
                        have H' := Aside0.mk H
                        clear H
                        go_wp2_with (first | (go_at_call 18; (with_reducible refine (wisplaw01_two.calls kj25 44 a1 a2 t279 _ A45.out).mono ?_); rintro e w' ⟨rfl, ⟨nd, rfl⟩⟩))
                        go_meet
                        case rel => exact ⟨_, (false), (by first | rfl | (simp; done) | (simp [*]; done)), H', ⟨by have := HJ8.out; have := HJ25.out; first | omega | exact Nat.le_refl _⟩, by repeat (first | exact Drawn0.refl _ | apply Drawn0.step)⟩
                · rw [if_neg c44] at H
                  have c44b0 : (t265 == 65535) = false := beq_eq_false_iff_ne.mpr c44
                  have c44b1 : (t265 != 65535) = true := bne_iff_ne.mpr c44
                  (first | rw [c44b0] | (simp only [i64_w, i32_w]; rw [c44b0]) | skip)
                  by_cases c57 : t268 = 65535
                  · rw [if_pos c57] at H
                    have c57b0 : (t268 == 65535) = true := beq_iff_eq.mpr c57
                    have c57b1 : (t268 != 65535) = false := bne_eq_false_iff_eq.mpr c57
                    clear c57
                    replace H := Option.bind_eq_some_iff.mp H
                    obtain ⟨t285, A580, H⟩ := H
                    replace H : (if t285 = 65535 then ((wisplaw01_two.f kj25 46 a0 a2).bind fun t286 => (wisplaw01_NumOrder.j2 kj25 a0 a1 t265 t268 (t286 != 65535))) else (wisplaw01_NumOrder.j2 kj25 a0 a1 t265 t268 false)) = some r := H
                    have A58 := Aside0.mk A580
                    clear A580
                    by_cases c59 : t285 = 65535
                    · rw [if_pos c59] at H
                      have c59b0 : (t285 == 65535) = true := beq_iff_eq.mpr c59
                      have c59b1 : (t285 != 65535) = false := bne_eq_false_iff_eq.mpr c59
                      clear c59
                      replace H := Option.bind_eq_some_iff.mp H
                      obtain ⟨t286, A600, H⟩ := H
                      replace H : (wisplaw01_NumOrder.j2 kj25 a0 a1 t265 t268 (t286 != 65535)) = some r := H
                      have A60 := Aside0.mk A600
                      clear A600
                      as_aux_lemma =>
                        have H' := Aside0.mk H
                        clear H
                        go_wp2_with (first | (go_at_call 18; (with_reducible refine (wisplaw01_two.calls kj25 46 a1 a2 t285 _ A58.out).mono ?_); rintro e w' ⟨rfl, ⟨nd, rfl⟩⟩) | (go_at_call 18; (with_reducible refine (wisplaw01_two.calls kj25 46 a0 a2 t286 _ A60.out).mono ?_); rintro e w' ⟨rfl, ⟨nd, rfl⟩⟩))
                        go_meet
                        case rel => exact ⟨_, ((t286 != 65535)), (by first | rfl | (simp; done) | (simp [*]; done)), H', ⟨by have := HJ8.out; have := HJ25.out; first | omega | exact Nat.le_refl _⟩, by repeat (first | exact Drawn0.refl _ | apply Drawn0.step)⟩
                    · rw [if_neg c59] at H
                      have c59b0 : (t285 == 65535) = false := beq_eq_false_iff_ne.mpr c59
                      have c59b1 : (t285 != 65535) = true := bne_iff_ne.mpr c59
                      as_aux_lemma =>
                        have H' := Aside0.mk H
                        clear H
                        go_wp2_with (first | (go_at_call 18; (with_reducible refine (wisplaw01_two.calls kj25 46 a1 a2 t285 _ A58.out).mono ?_); rintro e w' ⟨rfl, ⟨nd, rfl⟩⟩))
                        go_meet
                        case rel => exact ⟨_, (false), (by first | rfl | (simp; done) | (simp [*]; done)), H', ⟨by have := HJ8.out; have := HJ25.out; first | omega | exact Nat.le_refl _⟩, by repeat (first | exact Drawn0.refl _ | apply Drawn0.step)⟩
                  · rw [if_neg c57] at H
                    have c57b0 : (t268 == 65535) = false := beq_eq_false_iff_ne.mpr c57
                    have c57b1 : (t268 != 65535) = true := bne_iff_ne.mpr c57
                    as_aux_lemma =>
                      have H' := Aside0.mk H
                      clear H
                      go_wp2
                      go_meet
                      case rel => exact ⟨_, (false), (by first | rfl | (simp; done) | (simp [*]; done)), H', ⟨by have := HJ8.out; have := HJ25.out; first | omega | exact Nat.le_refl _⟩, by repeat (first | exact Drawn0.refl _ | apply Drawn0.step)⟩
              case rest =>
                clear HC43
                try clear c1
                try clear c2
                try clear p2
                try clear c3
                try clear c4
                try clear c5
                try clear c6
                try clear c8
                try clear c11
                try clear c13
                try clear c16
                try clear c16b0
                try clear c16b1
                try clear c17
                try clear c17b0
                try clear c17b1
                try clear c17b2
                try clear c18
                try clear c19
                try clear c19b0
                try clear c19b1
                try clear c20
                try clear c21
                try clear c21b0
                try clear c21b1
                try clear c23
                try clear c25
                try clear c27
                try clear c27b0
                try clear c27b1
                try clear c28
                try clear c28b0
                try clear c28b1
                try clear c29
                try clear c29b0
                try clear c29b1
                try clear c30
                try clear c30b0
                try clear c30b1
                try clear c31
                try clear c31b0
                try clear c31b1
                try clear c32
                try clear c32b0
                try clear c32b1
                try clear c33
                try clear c33b0
                try clear c33b1
                try clear c34
                try clear c34b0
                try clear c34b1
                try clear c35
                try clear c35b0
                try clear c35b1
                try clear c36
                try clear c36b0
                try clear c36b1
                try clear c37
                try clear c37b0
                try clear c37b1
                try clear c38
                try clear c38b0
                try clear c38b1
                try clear c39
                try clear c39b0
                try clear c39b1
                try clear c40
                try clear c40b0
                try clear c40b1
                try clear c41
                try clear c41b0
                try clear c41b1
                try clear c42
                try clear c44
                try clear c44b0
                try clear c44b1
                try clear c46
                try clear c46b0
                try clear c46b1
                try clear c48
                try clear c48b0
                try clear c48b1
                try clear c49
                try clear c49b0
                try clear c49b1
                try clear c51
                try clear c51b0
                try clear c51b1
                try clear c53
                try clear c53b0
                try clear c53b1
                try clear c55
                try clear c55b0
                try clear c55b1
                try clear c57
                try clear c57b0
                try clear c57b1
                try clear c59
                try clear c59b0
                try clear c59b1
                try clear p2
                obtain ⟨kq, x154_42, rfl, HA, HJ42, ⟨mc42, rfl⟩⟩ := hcut
                cases kq with
                | zero => exact absurd HA.out (by simp [wisplaw01_NumOrder.j2])
                | succ kj42 =>
                  have H := HA.out
                  clear HA
                  simp only [wisplaw01_NumOrder.j2] at H
                  by_cases c61 : x154_42 = true
                  · subst c61
                    have H1 : (some false) = some r := by rw [if_pos rfl] at H; exact H
                    clear H
                    have H := H1
                    clear H1
                    as_aux_lemma =>
                      obtain rfl := Option.some.inj H
                      go_wp2
                      go_ret
                      exact ⟨by first | rfl | (simp; done) | (simp [*]; done), by repeat (first | exact Drawn0.refl _ | apply Drawn0.step)⟩
                  · replace c61 := Bool.eq_false_iff.mpr c61
                    subst c61
                    have H1 : ((wisplaw01_one.f 49 a0).bind fun t287 => ((wisplaw01_one.f 49 a1).bind fun t288 => (if ((t265 != t268) == (t287 != t288)) = true then ((wisplaw01_one.f 48 a0).bind fun t289 => ((wisplaw01_two.f kj42 42 a0 0).bind fun t290 => (if t289 = t290 then ((wisplaw01_one.f 49 a0).bind fun t291 => ((wisplaw01_two.f kj42 44 a0 0).bind fun t292 => (some (t291 == t292)))) else (some false)))) else (some false)))) = some r := by rw [if_neg (show ¬ (false = true) by decide)] at H; exact H
                    clear H
                    have H := H1
                    clear H1
                    replace H := Option.bind_eq_some_iff.mp H
                    obtain ⟨t287, A620, H⟩ := H
                    replace H : ((wisplaw01_one.f 49 a1).bind fun t288 => (if ((t265 != t268) == (t287 != t288)) = true then ((wisplaw01_one.f 48 a0).bind fun t289 => ((wisplaw01_two.f kj42 42 a0 0).bind fun t290 => (if t289 = t290 then ((wisplaw01_one.f 49 a0).bind fun t291 => ((wisplaw01_two.f kj42 44 a0 0).bind fun t292 => (some (t291 == t292)))) else (some false)))) else (some false))) = some r := H
                    have A62 := Aside0.mk A620
                    clear A620
                    replace H := Option.bind_eq_some_iff.mp H
                    obtain ⟨t288, A630, H⟩ := H
                    replace H : (if ((t265 != t268) == (t287 != t288)) = true then ((wisplaw01_one.f 48 a0).bind fun t289 => ((wisplaw01_two.f kj42 42 a0 0).bind fun t290 => (if t289 = t290 then ((wisplaw01_one.f 49 a0).bind fun t291 => ((wisplaw01_two.f kj42 44 a0 0).bind fun t292 => (some (t291 == t292)))) else (some false)))) else (some false)) = some r := H
                    have A63 := Aside0.mk A630
                    clear A630
                    by_cases c64 : ((t265 != t268) == (t287 != t288)) = true
                    · rw [if_pos c64] at H
                      have c64b0 : ((t265 != t268) == (t287 != t288)) = true := c64
                      (try (have c64b1 : decide ((t265 != t268) = (t287 != t288)) = true := by simpa using c64))
                      (try (have c64b2 : ((t265 != t268) == (t287 != t288)) = true := by simpa using c64))
                      clear c64
                      replace H := Option.bind_eq_some_iff.mp H
                      obtain ⟨t289, A650, H⟩ := H
                      replace H : ((wisplaw01_two.f kj42 42 a0 0).bind fun t290 => (if t289 = t290 then ((wisplaw01_one.f 49 a0).bind fun t291 => ((wisplaw01_two.f kj42 44 a0 0).bind fun t292 => (some (t291 == t292)))) else (some false))) = some r := H
                      have A65 := Aside0.mk A650
                      clear A650
                      replace H := Option.bind_eq_some_iff.mp H
                      obtain ⟨t290, A660, H⟩ := H
                      replace H : (if t289 = t290 then ((wisplaw01_one.f 49 a0).bind fun t291 => ((wisplaw01_two.f kj42 44 a0 0).bind fun t292 => (some (t291 == t292)))) else (some false)) = some r := H
                      have A66 := Aside0.mk A660
                      clear A660
                      by_cases c67 : t289 = t290
                      · rw [if_pos c67] at H
                        have c67b0 : (t289 == t290) = true := beq_iff_eq.mpr c67
                        have c67b1 : (t289 != t290) = false := bne_eq_false_iff_eq.mpr c67
                        clear c67
                        replace H := Option.bind_eq_some_iff.mp H
                        obtain ⟨t291, A680, H⟩ := H
                        replace H : ((wisplaw01_two.f kj42 44 a0 0).bind fun t292 => (some (t291 == t292))) = some r := H
                        have A68 := Aside0.mk A680
                        clear A680
                        replace H := Option.bind_eq_some_iff.mp H
                        obtain ⟨t292, A690, H⟩ := H
                        replace H : (some (t291 == t292)) = some r := H
                        have A69 := Aside0.mk A690
                        clear A690
                        as_aux_lemma =>
                          obtain rfl := Option.some.inj H
                          go_wp2_with (first | ((with_reducible refine gate_callee (f := 19) rfl ?_); refine goesL_ (some 156) rfl rfl Try.func19 (by kernel_rfl) rfl #[.int .i64 49, .int .u16 a0] rfl (by (try simp only [List.map_toArray, List.map_cons, List.map_nil]); first | done | rfl | (simp only [List.length_drop, List.length_take]; rfl)) ?_; (with_reducible refine (wisplaw01_one.calls 49 a0 t287 _ A62.out).mono ?_); rintro e w' ⟨rfl, ⟨nd, rfl⟩⟩; refine ⟨_, rfl, ?_⟩) | ((with_reducible refine gate_callee (f := 19) rfl ?_); refine goesL_ (some 158) rfl rfl Try.func19 (by kernel_rfl) rfl #[.int .i64 49, .int .u16 a1] rfl (by (try simp only [List.map_toArray, List.map_cons, List.map_nil]); first | done | rfl | (simp only [List.length_drop, List.length_take]; rfl)) ?_; (with_reducible refine (wisplaw01_one.calls 49 a1 t288 _ A63.out).mono ?_); rintro e w' ⟨rfl, ⟨nd, rfl⟩⟩; refine ⟨_, rfl, ?_⟩) | (go_at_call 19; (with_reducible refine (wisplaw01_one.calls 48 a0 t289 _ A65.out).mono ?_); rintro e w' ⟨rfl, ⟨nd, rfl⟩⟩) | (go_at_call 18; (with_reducible refine (wisplaw01_two.calls kj42 42 a0 0 t290 _ A66.out).mono ?_); rintro e w' ⟨rfl, ⟨nd, rfl⟩⟩) | (go_at_call 19; (with_reducible refine (wisplaw01_one.calls 49 a0 t291 _ A68.out).mono ?_); rintro e w' ⟨rfl, ⟨nd, rfl⟩⟩) | (go_at_call 18; (with_reducible refine (wisplaw01_two.calls kj42 44 a0 0 t292 _ A69.out).mono ?_); rintro e w' ⟨rfl, ⟨nd, rfl⟩⟩))
                          go_ret
                          exact ⟨by first | rfl | (simp; done) | (simp [*]; done), by repeat (first | exact Drawn0.refl _ | apply Drawn0.step)⟩
                      · rw [if_neg c67] at H
                        have c67b0 : (t289 == t290) = false := beq_eq_false_iff_ne.mpr c67
                        have c67b1 : (t289 != t290) = true := bne_iff_ne.mpr c67
                        as_aux_lemma =>
                          obtain rfl := Option.some.inj H
                          go_wp2_with (first | ((with_reducible refine gate_callee (f := 19) rfl ?_); refine goesL_ (some 156) rfl rfl Try.func19 (by kernel_rfl) rfl #[.int .i64 49, .int .u16 a0] rfl (by (try simp only [List.map_toArray, List.map_cons, List.map_nil]); first | done | rfl | (simp only [List.length_drop, List.length_take]; rfl)) ?_; (with_reducible refine (wisplaw01_one.calls 49 a0 t287 _ A62.out).mono ?_); rintro e w' ⟨rfl, ⟨nd, rfl⟩⟩; refine ⟨_, rfl, ?_⟩) | ((with_reducible refine gate_callee (f := 19) rfl ?_); refine goesL_ (some 158) rfl rfl Try.func19 (by kernel_rfl) rfl #[.int .i64 49, .int .u16 a1] rfl (by (try simp only [List.map_toArray, List.map_cons, List.map_nil]); first | done | rfl | (simp only [List.length_drop, List.length_take]; rfl)) ?_; (with_reducible refine (wisplaw01_one.calls 49 a1 t288 _ A63.out).mono ?_); rintro e w' ⟨rfl, ⟨nd, rfl⟩⟩; refine ⟨_, rfl, ?_⟩) | (go_at_call 19; (with_reducible refine (wisplaw01_one.calls 48 a0 t289 _ A65.out).mono ?_); rintro e w' ⟨rfl, ⟨nd, rfl⟩⟩) | (go_at_call 18; (with_reducible refine (wisplaw01_two.calls kj42 42 a0 0 t290 _ A66.out).mono ?_); rintro e w' ⟨rfl, ⟨nd, rfl⟩⟩))
                          go_ret
                          exact ⟨by first | rfl | (simp; done) | (simp [*]; done), by repeat (first | exact Drawn0.refl _ | apply Drawn0.step)⟩
                    · rw [if_neg c64] at H
                      have c64b0 : ((t265 != t268) == (t287 != t288)) = false := by simpa using c64
                      (try (have c64b1 : decide ((t265 != t268) = (t287 != t288)) = false := by simpa using c64))
                      (try (have c64b2 : ((t265 != t268) == (t287 != t288)) = false := by simpa using c64))
                      (try (have c64b3 : ¬ ((t265 != t268) = (t287 != t288)) := by simpa using c64))
                      clear c64
                      as_aux_lemma =>
                        obtain rfl := Option.some.inj H
                        go_wp2_with (first | ((with_reducible refine gate_callee (f := 19) rfl ?_); refine goesL_ (some 156) rfl rfl Try.func19 (by kernel_rfl) rfl #[.int .i64 49, .int .u16 a0] rfl (by (try simp only [List.map_toArray, List.map_cons, List.map_nil]); first | done | rfl | (simp only [List.length_drop, List.length_take]; rfl)) ?_; (with_reducible refine (wisplaw01_one.calls 49 a0 t287 _ A62.out).mono ?_); rintro e w' ⟨rfl, ⟨nd, rfl⟩⟩; refine ⟨_, rfl, ?_⟩) | ((with_reducible refine gate_callee (f := 19) rfl ?_); refine goesL_ (some 158) rfl rfl Try.func19 (by kernel_rfl) rfl #[.int .i64 49, .int .u16 a1] rfl (by (try simp only [List.map_toArray, List.map_cons, List.map_nil]); first | done | rfl | (simp only [List.length_drop, List.length_take]; rfl)) ?_; (with_reducible refine (wisplaw01_one.calls 49 a1 t288 _ A63.out).mono ?_); rintro e w' ⟨rfl, ⟨nd, rfl⟩⟩; refine ⟨_, rfl, ?_⟩))
                        go_ret
                        exact ⟨by first | rfl | (simp; done) | (simp [*]; done), by repeat (first | exact Drawn0.refl _ | apply Drawn0.step)⟩

/-- THE ONE PURE STATEMENT of wisplaw01_NumOrder: yours. -/
def wisplaw01_NumOrder.Pure : Prop := ∀ (a0 : Int) (a1 : Int) (a2 : Int), (Lit.int .u16 a0).wf = true → (Lit.int .u16 a1).wf = true → (Lit.int .u16 a2).wf = true → ∃ k, wisplaw01_NumOrder.f k a0 a1 a2 = some true
theorem wisplaw01_NumOrder.walk (P : wisplaw01_NumOrder.Pure) (a0 : Int) (a1 : Int) (a2 : Int) (w : World) (w0 : (Lit.int .u16 a0).wf = true) (w1 : (Lit.int .u16 a1).wf = true) (w2 : (Lit.int .u16 a2).wf = true) :
    Calls Try.prog 6 #[.int .u16 a0, .int .u16 a1, .int .u16 a2] w fun e w' => e = .returned (.bool true) ∧ Below w.heap.size w w' := by
  obtain ⟨k, h⟩ := P a0 a1 a2 w0 w1 w2
  refine (wisplaw01_NumOrder.calls k a0 a1 a2 true w h).mono ?_
  rintro e w' ⟨rfl, hd⟩
  exact ⟨rfl, hd.below⟩

end Go.Proofs.Ytgnjlgfnpfjjnaa.P
