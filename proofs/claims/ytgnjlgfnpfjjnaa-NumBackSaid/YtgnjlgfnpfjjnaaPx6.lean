/- Printed by a program of this session (it turns the kit's print): see wip/myprint. -/
import Derived.Test.YtgnjlgfnpfjjnaaPx0
import Derived.Test.YtgnjlgfnpfjjnaaPx1
import Derived.Test.YtgnjlgfnpfjjnaaPx2
import Derived.Test.YtgnjlgfnpfjjnaaPx5
namespace Go.Proofs.Ytgnjlgfnpfjjnaa.P
open Go.RowKit Go.Proofs.YtgnjlgfnpfjjnaaW.PrintWords Go.Proofs.YtgnjlgfnpfjjnaaW.PrintLast Go.Proofs.YtgnjlgfnpfjjnaaW.PrintMore Go.Proofs.Ytgnjlgfnpfjjnaa.Mine
attribute [local go_sem] max2_int min2_int max_two min_two max_three min_three max_four min_four   -- for this text's walks alone
set_option linter.unusedVariables false
set_option linter.unusedSimpArgs false

/-! ### wisplaw01_NumBack: function 5 -/
mutual
def wisplaw01_NumBack.j0 : Nat → Int → Int → Int → Bool → Option (Bool)
  | 0, _, _, _, _ => none
  | k + 1, x0, x1, x7, x39 => if x39 = true then (some false) else ((wisplaw01_two.f k 21 x0 x1).bind fun t221 => ((wisplaw01_two.f k 22 t221 x1).bind fun t222 => (if t222 = x0 then ((wisplaw01_two.f k 21 x0 x1).bind fun t223 => ((wisplaw01_two.f k 21 x1 x0).bind fun t224 => (if t223 = t224 then ((wisplaw01_two.f k 23 x0 x1).bind fun t225 => ((wisplaw01_two.f k 23 x1 x0).bind fun t226 => (if t225 = t226 then ((wisplaw01_one.f 28 x0).bind fun t227 => ((wisplaw01_one.f 28 t227).bind fun t228 => (if t228 = x0 then ((wisplaw01_one.f 39 x0).bind fun t229 => ((wisplaw01_one.f 39 t229).bind fun t230 => (if t230 = x0 then ((wisplaw01_one.f 32 x0).bind fun t231 => ((wisplaw01_one.f 33 t231).bind fun t232 => (wisplaw01_NumBack.j1 k x0 x1 x7 (t232 != x0)))) else (wisplaw01_NumBack.j1 k x0 x1 x7 true)))) else (wisplaw01_NumBack.j1 k x0 x1 x7 true)))) else (wisplaw01_NumBack.j1 k x0 x1 x7 true)))) else (wisplaw01_NumBack.j1 k x0 x1 x7 true)))) else (wisplaw01_NumBack.j1 k x0 x1 x7 true))))
def wisplaw01_NumBack.j1 : Nat → Int → Int → Int → Bool → Option (Bool)
  | 0, _, _, _, _ => none
  | k + 1, x0, x1, x7, x85 => if x85 = true then (some false) else ((wisplaw01_one.f 34 x0).bind fun t233 => ((wisplaw01_two.f k 21 x0 x0).bind fun t234 => (if t233 = t234 then ((wisplaw01_one.f 34 x0).bind fun t235 => ((wisplaw01_two.f k 40 x0 1).bind fun t236 => (if t235 = t236 then ((wisplaw01_two.f k 41 x0 1).bind fun t237 => ((wisplaw01_two.f k 26 x0 2).bind fun t238 => (if t237 = t238 then ((wisplaw01_one.f 28 x0).bind fun t239 => ((wisplaw01_two.f k 22 0 x0).bind fun t240 => (if t239 = t240 then ((wisplaw01_two.f k 38 x0 65535).bind fun t241 => ((wisplaw01_one.f 39 x0).bind fun t242 => (if t241 = t242 then ((wisplaw01_two.f k 38 x0 x1).bind fun t243 => ((wisplaw01_two.f k 38 t243 x1).bind fun t244 => (wisplaw01_NumBack.j2 k x0 x1 x7 (t244 != x0)))) else (wisplaw01_NumBack.j2 k x0 x1 x7 true)))) else (wisplaw01_NumBack.j2 k x0 x1 x7 true)))) else (wisplaw01_NumBack.j2 k x0 x1 x7 true)))) else (wisplaw01_NumBack.j2 k x0 x1 x7 true)))) else (wisplaw01_NumBack.j2 k x0 x1 x7 true))))
def wisplaw01_NumBack.j2 : Nat → Int → Int → Int → Bool → Option (Bool)
  | 0, _, _, _, _ => none
  | k + 1, x0, x1, x7, x128 => if x128 = true then (some false) else ((wisplaw01_two.f k 36 x0 x1).bind fun t245 => ((wisplaw01_two.f k 37 x0 x1).bind fun t246 => ((wisplaw01_two.f k 21 t245 t246).bind fun t247 => ((wisplaw01_two.f k 21 x0 x1).bind fun t248 => (if t247 = t248 then (if x1 = 0 then ((wisplaw01_two.f k 24 x0 x1).bind fun t249 => (if t249 = 0 then ((wisplaw01_two.f k 25 x0 x1).bind fun t250 => (if t250 = 0 then ((wisplaw01_two.f k 26 x0 x1).bind fun t251 => (if t251 = 0 then ((wisplaw01_two.f k 27 x0 x1).bind fun t252 => (some (t252 == 0))) else (some false))) else (some false))) else (some false))) else ((wisplaw01_two.f k 24 x0 x1).bind fun t253 => ((wisplaw01_two.f k 23 t253 x1).bind fun t254 => ((wisplaw01_two.f k 25 x0 x1).bind fun t255 => ((wisplaw01_two.f k 21 t254 t255).bind fun t256 => (if t256 = x0 then ((wisplaw01_two.f k 26 x0 x1).bind fun t257 => ((wisplaw01_two.f k 23 t257 x1).bind fun t258 => ((wisplaw01_two.f k 27 x0 x1).bind fun t259 => ((wisplaw01_two.f k 21 t258 t259).bind fun t260 => (if t260 = x0 then ((wisplaw01_two.f k 27 x0 x1).bind fun t261 => (wisplaw01_NumBack.j3 k x0 x1 x7 (decide (t261 ≥ x1)))) else (wisplaw01_NumBack.j3 k x0 x1 x7 true)))))) else (wisplaw01_NumBack.j3 k x0 x1 x7 true))))))) else (some false))))))
def wisplaw01_NumBack.j3 : Nat → Int → Int → Int → Bool → Option (Bool)
  | 0, _, _, _, _ => none
  | k + 1, x0, x1, x7, x194 => if x194 = true then (some false) else ((wisplaw01_two.f k 25 x0 x1).bind fun t262 => ((num_Signed.f t262).bind fun t263 => ((num_Signed.f x1).bind fun t264 => (if t264 < 0 then (if t263 < (wrap64 (-t264)) then (if (wrap64 (-t263)) < (wrap64 (-t264)) then (if t263 = 0 then (some true) else (some ((decide (t263 < 0)) == (decide (x7 < 0))))) else (some false)) else (some false)) else (if t263 < t264 then (if (wrap64 (-t263)) < t264 then (if t263 = 0 then (some true) else (some ((decide (t263 < 0)) == (decide (x7 < 0))))) else (some false)) else (some false))))))
end
def wisplaw01_NumBack.f (k : Nat) (a0 : Int) (a1 : Int) (a2 : Int) : Option (Bool) := (num_Signed.f a0).bind fun t215 => ((num_Cell.f t215).bind fun t216 => (if t216 = a0 then (if t215 < (-32768) then (wisplaw01_NumBack.j0 k a0 a1 t215 true) else (if t215 > 32767 then (wisplaw01_NumBack.j0 k a0 a1 t215 true) else ((num_Cell.f a2).bind fun t217 => ((num_Cell.f (wrap64 (a2 - 65536))).bind fun t218 => (if t217 = t218 then ((wisplaw01_fixed.f k).bind fun t219 => (wisplaw01_NumBack.j0 k a0 a1 t215 (!t219))) else (if a2 > (-9223372036854700000) then (wisplaw01_NumBack.j0 k a0 a1 t215 true) else ((wisplaw01_fixed.f k).bind fun t220 => (wisplaw01_NumBack.j0 k a0 a1 t215 (!t220))))))))) else (wisplaw01_NumBack.j0 k a0 a1 t215 true)))
theorem wisplaw01_NumBack.mono_l : ∀ k, (∀ y0 y1 y2 y3, LeO (wisplaw01_NumBack.j0 k y0 y1 y2 y3) (wisplaw01_NumBack.j0 (k + 1) y0 y1 y2 y3)) ∧ (∀ y0 y1 y2 y3, LeO (wisplaw01_NumBack.j1 k y0 y1 y2 y3) (wisplaw01_NumBack.j1 (k + 1) y0 y1 y2 y3)) ∧ (∀ y0 y1 y2 y3, LeO (wisplaw01_NumBack.j2 k y0 y1 y2 y3) (wisplaw01_NumBack.j2 (k + 1) y0 y1 y2 y3)) ∧ (∀ y0 y1 y2 y3, LeO (wisplaw01_NumBack.j3 k y0 y1 y2 y3) (wisplaw01_NumBack.j3 (k + 1) y0 y1 y2 y3))
  | 0 => ⟨fun _ _ _ _ r h => by simp [wisplaw01_NumBack.j0] at h, fun _ _ _ _ r h => by simp [wisplaw01_NumBack.j1] at h, fun _ _ _ _ r h => by simp [wisplaw01_NumBack.j2] at h, fun _ _ _ _ r h => by simp [wisplaw01_NumBack.j3] at h⟩
  | k + 1 => by
    obtain ⟨ih0, ih1, ih2, ih3⟩ := wisplaw01_NumBack.mono_l k
    refine ⟨?_, ?_, ?_, ?_⟩
    · intro y0 y1 y2 y3
      unfold wisplaw01_NumBack.j0
      repeat' first
      | (with_reducible exact ih0 _ _ _ _)
      | (with_reducible exact ih1 _ _ _ _)
      | (with_reducible exact ih2 _ _ _ _)
      | (with_reducible exact ih3 _ _ _ _)
      | (with_reducible exact wisplaw01_fixed.mono _)
      | (with_reducible exact wisplaw01_two.mono _ _ _ _)
      | (with_reducible exact LeO.refl _)
      | (with_reducible exact LeO.none _)
      | (with_reducible refine LeO.ite ?_ ?_)
      | (with_reducible refine LeO.bind ?_ (fun _ => ?_))
      | exact ih0 _ _ _ _
      | exact ih1 _ _ _ _
      | exact ih2 _ _ _ _
      | exact ih3 _ _ _ _
      | exact wisplaw01_fixed.mono _
      | exact wisplaw01_two.mono _ _ _ _
      | exact LeO.none _
      | refine LeO.ite ?_ ?_
      | refine LeO.bind ?_ (fun _ => ?_)
    · intro y0 y1 y2 y3
      unfold wisplaw01_NumBack.j1
      repeat' first
      | (with_reducible exact ih0 _ _ _ _)
      | (with_reducible exact ih1 _ _ _ _)
      | (with_reducible exact ih2 _ _ _ _)
      | (with_reducible exact ih3 _ _ _ _)
      | (with_reducible exact wisplaw01_fixed.mono _)
      | (with_reducible exact wisplaw01_two.mono _ _ _ _)
      | (with_reducible exact LeO.refl _)
      | (with_reducible exact LeO.none _)
      | (with_reducible refine LeO.ite ?_ ?_)
      | (with_reducible refine LeO.bind ?_ (fun _ => ?_))
      | exact ih0 _ _ _ _
      | exact ih1 _ _ _ _
      | exact ih2 _ _ _ _
      | exact ih3 _ _ _ _
      | exact wisplaw01_fixed.mono _
      | exact wisplaw01_two.mono _ _ _ _
      | exact LeO.none _
      | refine LeO.ite ?_ ?_
      | refine LeO.bind ?_ (fun _ => ?_)
    · intro y0 y1 y2 y3
      unfold wisplaw01_NumBack.j2
      repeat' first
      | (with_reducible exact ih0 _ _ _ _)
      | (with_reducible exact ih1 _ _ _ _)
      | (with_reducible exact ih2 _ _ _ _)
      | (with_reducible exact ih3 _ _ _ _)
      | (with_reducible exact wisplaw01_fixed.mono _)
      | (with_reducible exact wisplaw01_two.mono _ _ _ _)
      | (with_reducible exact LeO.refl _)
      | (with_reducible exact LeO.none _)
      | (with_reducible refine LeO.ite ?_ ?_)
      | (with_reducible refine LeO.bind ?_ (fun _ => ?_))
      | exact ih0 _ _ _ _
      | exact ih1 _ _ _ _
      | exact ih2 _ _ _ _
      | exact ih3 _ _ _ _
      | exact wisplaw01_fixed.mono _
      | exact wisplaw01_two.mono _ _ _ _
      | exact LeO.none _
      | refine LeO.ite ?_ ?_
      | refine LeO.bind ?_ (fun _ => ?_)
    · intro y0 y1 y2 y3
      unfold wisplaw01_NumBack.j3
      repeat' first
      | (with_reducible exact ih0 _ _ _ _)
      | (with_reducible exact ih1 _ _ _ _)
      | (with_reducible exact ih2 _ _ _ _)
      | (with_reducible exact ih3 _ _ _ _)
      | (with_reducible exact wisplaw01_fixed.mono _)
      | (with_reducible exact wisplaw01_two.mono _ _ _ _)
      | (with_reducible exact LeO.refl _)
      | (with_reducible exact LeO.none _)
      | (with_reducible refine LeO.ite ?_ ?_)
      | (with_reducible refine LeO.bind ?_ (fun _ => ?_))
      | exact ih0 _ _ _ _
      | exact ih1 _ _ _ _
      | exact ih2 _ _ _ _
      | exact ih3 _ _ _ _
      | exact wisplaw01_fixed.mono _
      | exact wisplaw01_two.mono _ _ _ _
      | exact LeO.none _
      | refine LeO.ite ?_ ?_
      | refine LeO.bind ?_ (fun _ => ?_)
theorem wisplaw01_NumBack.mono : ∀ a0 a1 a2 k, LeO (wisplaw01_NumBack.f k a0 a1 a2) (wisplaw01_NumBack.f (k + 1) a0 a1 a2) := by
  intro a0 a1 a2 k
  obtain ⟨ih0, ih1, ih2, ih3⟩ := wisplaw01_NumBack.mono_l k
  unfold wisplaw01_NumBack.f
  repeat' first
      | (with_reducible exact ih0 _ _ _ _)
      | (with_reducible exact ih1 _ _ _ _)
      | (with_reducible exact ih2 _ _ _ _)
      | (with_reducible exact ih3 _ _ _ _)
      | (with_reducible exact wisplaw01_fixed.mono _)
      | (with_reducible exact wisplaw01_two.mono _ _ _ _)
      | (with_reducible exact LeO.refl _)
      | (with_reducible exact LeO.none _)
      | (with_reducible refine LeO.ite ?_ ?_)
      | (with_reducible refine LeO.bind ?_ (fun _ => ?_))
      | exact ih0 _ _ _ _
      | exact ih1 _ _ _ _
      | exact ih2 _ _ _ _
      | exact ih3 _ _ _ _
      | exact wisplaw01_fixed.mono _
      | exact wisplaw01_two.mono _ _ _ _
      | exact LeO.none _
      | refine LeO.ite ?_ ?_
      | refine LeO.bind ?_ (fun _ => ?_)
set_option maxHeartbeats 8000000 in
set_option maxRecDepth 100000 in
theorem wisplaw01_NumBack.calls (k : Nat) (a0 : Int) (a1 : Int) (a2 : Int) (r : Bool) (w : World) (h : wisplaw01_NumBack.f k a0 a1 a2 = some r) :
    Calls Try.prog 5 #[.int .u16 a0, .int .u16 a1, .int .i64 a2] w fun e w' => e = .returned (.bool r) ∧ Drawn0 w w' := by
  have H : ((num_Signed.f a0).bind fun t215 => ((num_Cell.f t215).bind fun t216 => (if t216 = a0 then (if t215 < (-32768) then (wisplaw01_NumBack.j0 k a0 a1 t215 true) else (if t215 > 32767 then (wisplaw01_NumBack.j0 k a0 a1 t215 true) else ((num_Cell.f a2).bind fun t217 => ((num_Cell.f (wrap64 (a2 - 65536))).bind fun t218 => (if t217 = t218 then ((wisplaw01_fixed.f k).bind fun t219 => (wisplaw01_NumBack.j0 k a0 a1 t215 (!t219))) else (if a2 > (-9223372036854700000) then (wisplaw01_NumBack.j0 k a0 a1 t215 true) else ((wisplaw01_fixed.f k).bind fun t220 => (wisplaw01_NumBack.j0 k a0 a1 t215 (!t220))))))))) else (wisplaw01_NumBack.j0 k a0 a1 t215 true)))) = some r := h
  clear h
  replace H := Option.bind_eq_some_iff.mp H
  obtain ⟨t215, A40, H⟩ := H
  replace H : ((num_Cell.f t215).bind fun t216 => (if t216 = a0 then (if t215 < (-32768) then (wisplaw01_NumBack.j0 k a0 a1 t215 true) else (if t215 > 32767 then (wisplaw01_NumBack.j0 k a0 a1 t215 true) else ((num_Cell.f a2).bind fun t217 => ((num_Cell.f (wrap64 (a2 - 65536))).bind fun t218 => (if t217 = t218 then ((wisplaw01_fixed.f k).bind fun t219 => (wisplaw01_NumBack.j0 k a0 a1 t215 (!t219))) else (if a2 > (-9223372036854700000) then (wisplaw01_NumBack.j0 k a0 a1 t215 true) else ((wisplaw01_fixed.f k).bind fun t220 => (wisplaw01_NumBack.j0 k a0 a1 t215 (!t220))))))))) else (wisplaw01_NumBack.j0 k a0 a1 t215 true))) = some r := H
  have A4 := Aside0.mk A40
  clear A40
  have HC5 := Aside0.mk H
  clear H
  go_enter Try.func5, Try.ntmps5
  go_upto_region 2 with (first | ((with_reducible refine gate_callee (f := 10) rfl ?_); refine goesL_ (some 11) rfl rfl Try.func10 (by kernel_rfl) rfl #[.int .u16 a0] rfl (by (try simp only [List.map_toArray, List.map_cons, List.map_nil]); first | done | rfl | (simp only [List.length_drop, List.length_take]; rfl)) ?_; (with_reducible refine (num_Signed.calls a0 t215 _ A4.out).mono ?_); rintro e w' ⟨rfl, ⟨nd, rfl⟩⟩; refine ⟨_, rfl, ?_⟩))
  (try simp only [Act.put, List.setIfInBounds_toArray, List.set_cons_zero, List.set_cons_succ])
  go_cut [39] (fun v39 wc => ∃ (kq : Nat) (x39_4 : Bool), v39 = .bool x39_4 ∧ Aside0 (wisplaw01_NumBack.j0 kq a0 a1 t215 x39_4 = some r) ∧ Aside0 (kq ≤ k) ∧ Drawn0 w wc)
  case first =>
    have H := HC5.out
    clear HC5
    replace H := Option.bind_eq_some_iff.mp H
    obtain ⟨t216, A60, H⟩ := H
    replace H : (if t216 = a0 then (if t215 < (-32768) then (wisplaw01_NumBack.j0 k a0 a1 t215 true) else (if t215 > 32767 then (wisplaw01_NumBack.j0 k a0 a1 t215 true) else ((num_Cell.f a2).bind fun t217 => ((num_Cell.f (wrap64 (a2 - 65536))).bind fun t218 => (if t217 = t218 then ((wisplaw01_fixed.f k).bind fun t219 => (wisplaw01_NumBack.j0 k a0 a1 t215 (!t219))) else (if a2 > (-9223372036854700000) then (wisplaw01_NumBack.j0 k a0 a1 t215 true) else ((wisplaw01_fixed.f k).bind fun t220 => (wisplaw01_NumBack.j0 k a0 a1 t215 (!t220))))))))) else (wisplaw01_NumBack.j0 k a0 a1 t215 true)) = some r := H
    have A6 := Aside0.mk A60
    clear A60
    by_cases c7 : t216 = a0
    · rw [if_pos c7] at H
      have c7b0 : (t216 == a0) = true := beq_iff_eq.mpr c7
      have c7b1 : (t216 != a0) = false := bne_eq_false_iff_eq.mpr c7
      clear c7
      (first | rw [c7b0] | (simp only [i64_w, i32_w]; rw [c7b0]) | skip)
      by_cases c8 : t215 < (-32768)
      · rw [if_pos c8] at H
        have c8b0 : decide (t215 < (-32768)) = true := decide_eq_true c8
        clear c8
        as_aux_lemma =>
          have H' := Aside0.mk H
          clear H
          go_wp2_with (first | ((with_reducible refine gate_callee (f := 12) rfl ?_); refine goesL_ (some 13) rfl rfl Try.func12 (by kernel_rfl) rfl #[.int .i64 t215] rfl (by (try simp only [List.map_toArray, List.map_cons, List.map_nil]); first | done | rfl | (simp only [List.length_drop, List.length_take]; rfl)) ?_; (with_reducible refine (num_Cell.calls t215 t216 _ A6.out).mono ?_); rintro e w' ⟨rfl, ⟨nd, rfl⟩⟩; refine ⟨_, rfl, ?_⟩))
          go_meet
          case rel => exact ⟨_, (true), (by first | rfl | (simp; done) | (simp [*]; done)), H', ⟨by first | omega | exact Nat.le_refl _⟩, by repeat (first | exact Drawn0.refl _ | apply Drawn0.step)⟩
      · rw [if_neg c8] at H
        have c8b0 : decide (t215 < (-32768)) = false := decide_eq_false c8
        clear c8
        by_cases c9 : t215 > 32767
        · rw [if_pos c9] at H
          have c9b0 : decide (32767 < t215) = true := decide_eq_true c9
          clear c9
          as_aux_lemma =>
            have H' := Aside0.mk H
            clear H
            go_wp2_with (first | ((with_reducible refine gate_callee (f := 12) rfl ?_); refine goesL_ (some 13) rfl rfl Try.func12 (by kernel_rfl) rfl #[.int .i64 t215] rfl (by (try simp only [List.map_toArray, List.map_cons, List.map_nil]); first | done | rfl | (simp only [List.length_drop, List.length_take]; rfl)) ?_; (with_reducible refine (num_Cell.calls t215 t216 _ A6.out).mono ?_); rintro e w' ⟨rfl, ⟨nd, rfl⟩⟩; refine ⟨_, rfl, ?_⟩))
            go_meet
            case rel => exact ⟨_, (true), (by first | rfl | (simp; done) | (simp [*]; done)), H', ⟨by first | omega | exact Nat.le_refl _⟩, by repeat (first | exact Drawn0.refl _ | apply Drawn0.step)⟩
        · rw [if_neg c9] at H
          have c9b0 : decide (32767 < t215) = false := decide_eq_false c9
          clear c9
          replace H := Option.bind_eq_some_iff.mp H
          obtain ⟨t217, A100, H⟩ := H
          replace H : ((num_Cell.f (wrap64 (a2 - 65536))).bind fun t218 => (if t217 = t218 then ((wisplaw01_fixed.f k).bind fun t219 => (wisplaw01_NumBack.j0 k a0 a1 t215 (!t219))) else (if a2 > (-9223372036854700000) then (wisplaw01_NumBack.j0 k a0 a1 t215 true) else ((wisplaw01_fixed.f k).bind fun t220 => (wisplaw01_NumBack.j0 k a0 a1 t215 (!t220)))))) = some r := H
          have A10 := Aside0.mk A100
          clear A100
          replace H := Option.bind_eq_some_iff.mp H
          obtain ⟨t218, A110, H⟩ := H
          replace H : (if t217 = t218 then ((wisplaw01_fixed.f k).bind fun t219 => (wisplaw01_NumBack.j0 k a0 a1 t215 (!t219))) else (if a2 > (-9223372036854700000) then (wisplaw01_NumBack.j0 k a0 a1 t215 true) else ((wisplaw01_fixed.f k).bind fun t220 => (wisplaw01_NumBack.j0 k a0 a1 t215 (!t220))))) = some r := H
          have A11 := Aside0.mk A110
          clear A110
          by_cases c12 : t217 = t218
          · rw [if_pos c12] at H
            have c12b0 : (t217 == t218) = true := beq_iff_eq.mpr c12
            have c12b1 : (t217 != t218) = false := bne_eq_false_iff_eq.mpr c12
            clear c12
            replace H := Option.bind_eq_some_iff.mp H
            obtain ⟨t219, A130, H⟩ := H
            replace H : (wisplaw01_NumBack.j0 k a0 a1 t215 (!t219)) = some r := H
            have A13 := Aside0.mk A130
            clear A130
            as_aux_lemma =>
              have H' := Aside0.mk H
              clear H
              go_wp2_with (first | ((with_reducible refine gate_callee (f := 12) rfl ?_); refine goesL_ (some 13) rfl rfl Try.func12 (by kernel_rfl) rfl #[.int .i64 t215] rfl (by (try simp only [List.map_toArray, List.map_cons, List.map_nil]); first | done | rfl | (simp only [List.length_drop, List.length_take]; rfl)) ?_; (with_reducible refine (num_Cell.calls t215 t216 _ A6.out).mono ?_); rintro e w' ⟨rfl, ⟨nd, rfl⟩⟩; refine ⟨_, rfl, ?_⟩) | (go_at_call 12; (with_reducible refine (num_Cell.calls a2 t217 _ A10.out).mono ?_); rintro e w' ⟨rfl, ⟨nd, rfl⟩⟩) | (go_at_call 12; (with_reducible refine (num_Cell.calls (wrap64 (a2 - 65536)) t218 _ A11.out).mono ?_); rintro e w' ⟨rfl, ⟨nd, rfl⟩⟩) | (go_at_call 9; (with_reducible refine (wisplaw01_fixed.calls k  t219 _ A13.out).mono ?_); rintro e w' ⟨rfl, ⟨nd, rfl⟩⟩))
              go_meet
              case rel => exact ⟨_, (!t219), (by first | rfl | (simp; done) | (simp [*]; done)), H', ⟨by first | omega | exact Nat.le_refl _⟩, by repeat (first | exact Drawn0.refl _ | apply Drawn0.step)⟩
          · rw [if_neg c12] at H
            have c12b0 : (t217 == t218) = false := beq_eq_false_iff_ne.mpr c12
            have c12b1 : (t217 != t218) = true := bne_iff_ne.mpr c12
            by_cases c14 : a2 > (-9223372036854700000)
            · rw [if_pos c14] at H
              have c14b0 : decide ((-9223372036854700000) < a2) = true := decide_eq_true c14
              clear c14
              as_aux_lemma =>
                have H' := Aside0.mk H
                clear H
                go_wp2_with (first | ((with_reducible refine gate_callee (f := 12) rfl ?_); refine goesL_ (some 13) rfl rfl Try.func12 (by kernel_rfl) rfl #[.int .i64 t215] rfl (by (try simp only [List.map_toArray, List.map_cons, List.map_nil]); first | done | rfl | (simp only [List.length_drop, List.length_take]; rfl)) ?_; (with_reducible refine (num_Cell.calls t215 t216 _ A6.out).mono ?_); rintro e w' ⟨rfl, ⟨nd, rfl⟩⟩; refine ⟨_, rfl, ?_⟩) | (go_at_call 12; (with_reducible refine (num_Cell.calls a2 t217 _ A10.out).mono ?_); rintro e w' ⟨rfl, ⟨nd, rfl⟩⟩) | (go_at_call 12; (with_reducible refine (num_Cell.calls (wrap64 (a2 - 65536)) t218 _ A11.out).mono ?_); rintro e w' ⟨rfl, ⟨nd, rfl⟩⟩))
                go_meet
                case rel => exact ⟨_, (true), (by first | rfl | (simp; done) | (simp [*]; done)), H', ⟨by first | omega | exact Nat.le_refl _⟩, by repeat (first | exact Drawn0.refl _ | apply Drawn0.step)⟩
            · rw [if_neg c14] at H
              have c14b0 : decide ((-9223372036854700000) < a2) = false := decide_eq_false c14
              clear c14
              replace H := Option.bind_eq_some_iff.mp H
              obtain ⟨t220, A150, H⟩ := H
              replace H : (wisplaw01_NumBack.j0 k a0 a1 t215 (!t220)) = some r := H
              have A15 := Aside0.mk A150
              clear A150
              as_aux_lemma =>
                have H' := Aside0.mk H
                clear H
                go_wp2_with (first | ((with_reducible refine gate_callee (f := 12) rfl ?_); refine goesL_ (some 13) rfl rfl Try.func12 (by kernel_rfl) rfl #[.int .i64 t215] rfl (by (try simp only [List.map_toArray, List.map_cons, List.map_nil]); first | done | rfl | (simp only [List.length_drop, List.length_take]; rfl)) ?_; (with_reducible refine (num_Cell.calls t215 t216 _ A6.out).mono ?_); rintro e w' ⟨rfl, ⟨nd, rfl⟩⟩; refine ⟨_, rfl, ?_⟩) | (go_at_call 12; (with_reducible refine (num_Cell.calls a2 t217 _ A10.out).mono ?_); rintro e w' ⟨rfl, ⟨nd, rfl⟩⟩) | (go_at_call 12; (with_reducible refine (num_Cell.calls (wrap64 (a2 - 65536)) t218 _ A11.out).mono ?_); rintro e w' ⟨rfl, ⟨nd, rfl⟩⟩) | (go_at_call 9; (with_reducible refine (wisplaw01_fixed.calls k  t220 _ A15.out).mono ?_); rintro e w' ⟨rfl, ⟨nd, rfl⟩⟩))
                go_meet
                case rel => exact ⟨_, (!t220), (by first | rfl | (simp; done) | (simp [*]; done)), H', ⟨by first | omega | exact Nat.le_refl _⟩, by repeat (first | exact Drawn0.refl _ | apply Drawn0.step)⟩
    · rw [if_neg c7] at H
      have c7b0 : (t216 == a0) = false := beq_eq_false_iff_ne.mpr c7
      have c7b1 : (t216 != a0) = true := bne_iff_ne.mpr c7
      (first | rw [c7b0] | (simp only [i64_w, i32_w]; rw [c7b0]) | skip)
      as_aux_lemma =>
        have H' := Aside0.mk H
        clear H
        go_wp2_with (first | ((with_reducible refine gate_callee (f := 12) rfl ?_); refine goesL_ (some 13) rfl rfl Try.func12 (by kernel_rfl) rfl #[.int .i64 t215] rfl (by (try simp only [List.map_toArray, List.map_cons, List.map_nil]); first | done | rfl | (simp only [List.length_drop, List.length_take]; rfl)) ?_; (with_reducible refine (num_Cell.calls t215 t216 _ A6.out).mono ?_); rintro e w' ⟨rfl, ⟨nd, rfl⟩⟩; refine ⟨_, rfl, ?_⟩))
        go_meet
        case rel => exact ⟨_, (true), (by first | rfl | (simp; done) | (simp [*]; done)), H', ⟨by first | omega | exact Nat.le_refl _⟩, by repeat (first | exact Drawn0.refl _ | apply Drawn0.step)⟩
  case rest =>
    clear HC5
    try clear c1
    try clear p2
    try clear c5
    try clear p6
    try clear c7
    try clear c7b0
    try clear c7b1
    try clear c8
    try clear c8b0
    try clear c9
    try clear c9b0
    try clear c10
    try clear c12
    try clear c12b0
    try clear c12b1
    try clear c14
    try clear c14b0
    obtain ⟨kq, x39_4, rfl, HA, HJ4, ⟨mc4, rfl⟩⟩ := hcut
    cases kq with
    | zero => exact absurd HA.out (by simp [wisplaw01_NumBack.j0])
    | succ kj4 =>
      have H := HA.out
      clear HA
      simp only [wisplaw01_NumBack.j0] at H
      by_cases c16 : x39_4 = true
      · subst c16
        have H1 : (some false) = some r := by rw [if_pos rfl] at H; exact H
        clear H
        have H := H1
        clear H1
        as_aux_lemma =>
          obtain rfl := Option.some.inj H
          go_wp2
          go_ret
          exact ⟨by first | rfl | (simp; done) | (simp [*]; done), by repeat (first | exact Drawn0.refl _ | apply Drawn0.step)⟩
      · replace c16 := Bool.eq_false_iff.mpr c16
        subst c16
        have H1 : ((wisplaw01_two.f kj4 21 a0 a1).bind fun t221 => ((wisplaw01_two.f kj4 22 t221 a1).bind fun t222 => (if t222 = a0 then ((wisplaw01_two.f kj4 21 a0 a1).bind fun t223 => ((wisplaw01_two.f kj4 21 a1 a0).bind fun t224 => (if t223 = t224 then ((wisplaw01_two.f kj4 23 a0 a1).bind fun t225 => ((wisplaw01_two.f kj4 23 a1 a0).bind fun t226 => (if t225 = t226 then ((wisplaw01_one.f 28 a0).bind fun t227 => ((wisplaw01_one.f 28 t227).bind fun t228 => (if t228 = a0 then ((wisplaw01_one.f 39 a0).bind fun t229 => ((wisplaw01_one.f 39 t229).bind fun t230 => (if t230 = a0 then ((wisplaw01_one.f 32 a0).bind fun t231 => ((wisplaw01_one.f 33 t231).bind fun t232 => (wisplaw01_NumBack.j1 kj4 a0 a1 t215 (t232 != a0)))) else (wisplaw01_NumBack.j1 kj4 a0 a1 t215 true)))) else (wisplaw01_NumBack.j1 kj4 a0 a1 t215 true)))) else (wisplaw01_NumBack.j1 kj4 a0 a1 t215 true)))) else (wisplaw01_NumBack.j1 kj4 a0 a1 t215 true)))) else (wisplaw01_NumBack.j1 kj4 a0 a1 t215 true)))) = some r := by rw [if_neg (show ¬ (false = true) by decide)] at H; exact H
        clear H
        have H := H1
        clear H1
        have HC17 := Aside0.mk H
        clear H
        go_upto_region 4 with (fail)
        go_cut [85] (fun v85 wc => ∃ (kq : Nat) (x85_16 : Bool), v85 = .bool x85_16 ∧ Aside0 (wisplaw01_NumBack.j1 kq a0 a1 t215 x85_16 = some r) ∧ Aside0 (kq ≤ kj4) ∧ Drawn0 w wc)
        case first =>
          have H := HC17.out
          clear HC17
          replace H := Option.bind_eq_some_iff.mp H
          obtain ⟨t221, A180, H⟩ := H
          replace H : ((wisplaw01_two.f kj4 22 t221 a1).bind fun t222 => (if t222 = a0 then ((wisplaw01_two.f kj4 21 a0 a1).bind fun t223 => ((wisplaw01_two.f kj4 21 a1 a0).bind fun t224 => (if t223 = t224 then ((wisplaw01_two.f kj4 23 a0 a1).bind fun t225 => ((wisplaw01_two.f kj4 23 a1 a0).bind fun t226 => (if t225 = t226 then ((wisplaw01_one.f 28 a0).bind fun t227 => ((wisplaw01_one.f 28 t227).bind fun t228 => (if t228 = a0 then ((wisplaw01_one.f 39 a0).bind fun t229 => ((wisplaw01_one.f 39 t229).bind fun t230 => (if t230 = a0 then ((wisplaw01_one.f 32 a0).bind fun t231 => ((wisplaw01_one.f 33 t231).bind fun t232 => (wisplaw01_NumBack.j1 kj4 a0 a1 t215 (t232 != a0)))) else (wisplaw01_NumBack.j1 kj4 a0 a1 t215 true)))) else (wisplaw01_NumBack.j1 kj4 a0 a1 t215 true)))) else (wisplaw01_NumBack.j1 kj4 a0 a1 t215 true)))) else (wisplaw01_NumBack.j1 kj4 a0 a1 t215 true)))) else (wisplaw01_NumBack.j1 kj4 a0 a1 t215 true))) = some r := H
          have A18 := Aside0.mk A180
          clear A180
          replace H := Option.bind_eq_some_iff.mp H
          obtain ⟨t222, A190, H⟩ := H
          replace H : (if t222 = a0 then ((wisplaw01_two.f kj4 21 a0 a1).bind fun t223 => ((wisplaw01_two.f kj4 21 a1 a0).bind fun t224 => (if t223 = t224 then ((wisplaw01_two.f kj4 23 a0 a1).bind fun t225 => ((wisplaw01_two.f kj4 23 a1 a0).bind fun t226 => (if t225 = t226 then ((wisplaw01_one.f 28 a0).bind fun t227 => ((wisplaw01_one.f 28 t227).bind fun t228 => (if t228 = a0 then ((wisplaw01_one.f 39 a0).bind fun t229 => ((wisplaw01_one.f 39 t229).bind fun t230 => (if t230 = a0 then ((wisplaw01_one.f 32 a0).bind fun t231 => ((wisplaw01_one.f 33 t231).bind fun t232 => (wisplaw01_NumBack.j1 kj4 a0 a1 t215 (t232 != a0)))) else (wisplaw01_NumBack.j1 kj4 a0 a1 t215 true)))) else (wisplaw01_NumBack.j1 kj4 a0 a1 t215 true)))) else (wisplaw01_NumBack.j1 kj4 a0 a1 t215 true)))) else (wisplaw01_NumBack.j1 kj4 a0 a1 t215 true)))) else (wisplaw01_NumBack.j1 kj4 a0 a1 t215 true)) = some r := H
          have A19 := Aside0.mk A190
          clear A190
          by_cases c20 : t222 = a0
          · rw [if_pos c20] at H
            have c20b0 : (t222 == a0) = true := beq_iff_eq.mpr c20
            have c20b1 : (t222 != a0) = false := bne_eq_false_iff_eq.mpr c20
            clear c20
            (first | rw [c20b0] | (simp only [i64_w, i32_w]; rw [c20b0]) | skip)
            replace H := Option.bind_eq_some_iff.mp H
            obtain ⟨t223, A210, H⟩ := H
            replace H : ((wisplaw01_two.f kj4 21 a1 a0).bind fun t224 => (if t223 = t224 then ((wisplaw01_two.f kj4 23 a0 a1).bind fun t225 => ((wisplaw01_two.f kj4 23 a1 a0).bind fun t226 => (if t225 = t226 then ((wisplaw01_one.f 28 a0).bind fun t227 => ((wisplaw01_one.f 28 t227).bind fun t228 => (if t228 = a0 then ((wisplaw01_one.f 39 a0).bind fun t229 => ((wisplaw01_one.f 39 t229).bind fun t230 => (if t230 = a0 then ((wisplaw01_one.f 32 a0).bind fun t231 => ((wisplaw01_one.f 33 t231).bind fun t232 => (wisplaw01_NumBack.j1 kj4 a0 a1 t215 (t232 != a0)))) else (wisplaw01_NumBack.j1 kj4 a0 a1 t215 true)))) else (wisplaw01_NumBack.j1 kj4 a0 a1 t215 true)))) else (wisplaw01_NumBack.j1 kj4 a0 a1 t215 true)))) else (wisplaw01_NumBack.j1 kj4 a0 a1 t215 true))) = some r := H
            have A21 := Aside0.mk A210
            clear A210
            replace H := Option.bind_eq_some_iff.mp H
            obtain ⟨t224, A220, H⟩ := H
            replace H : (if t223 = t224 then ((wisplaw01_two.f kj4 23 a0 a1).bind fun t225 => ((wisplaw01_two.f kj4 23 a1 a0).bind fun t226 => (if t225 = t226 then ((wisplaw01_one.f 28 a0).bind fun t227 => ((wisplaw01_one.f 28 t227).bind fun t228 => (if t228 = a0 then ((wisplaw01_one.f 39 a0).bind fun t229 => ((wisplaw01_one.f 39 t229).bind fun t230 => (if t230 = a0 then ((wisplaw01_one.f 32 a0).bind fun t231 => ((wisplaw01_one.f 33 t231).bind fun t232 => (wisplaw01_NumBack.j1 kj4 a0 a1 t215 (t232 != a0)))) else (wisplaw01_NumBack.j1 kj4 a0 a1 t215 true)))) else (wisplaw01_NumBack.j1 kj4 a0 a1 t215 true)))) else (wisplaw01_NumBack.j1 kj4 a0 a1 t215 true)))) else (wisplaw01_NumBack.j1 kj4 a0 a1 t215 true)) = some r := H
            have A22 := Aside0.mk A220
            clear A220
            by_cases c23 : t223 = t224
            · rw [if_pos c23] at H
              have c23b0 : (t223 == t224) = true := beq_iff_eq.mpr c23
              have c23b1 : (t223 != t224) = false := bne_eq_false_iff_eq.mpr c23
              clear c23
              replace H := Option.bind_eq_some_iff.mp H
              obtain ⟨t225, A240, H⟩ := H
              replace H : ((wisplaw01_two.f kj4 23 a1 a0).bind fun t226 => (if t225 = t226 then ((wisplaw01_one.f 28 a0).bind fun t227 => ((wisplaw01_one.f 28 t227).bind fun t228 => (if t228 = a0 then ((wisplaw01_one.f 39 a0).bind fun t229 => ((wisplaw01_one.f 39 t229).bind fun t230 => (if t230 = a0 then ((wisplaw01_one.f 32 a0).bind fun t231 => ((wisplaw01_one.f 33 t231).bind fun t232 => (wisplaw01_NumBack.j1 kj4 a0 a1 t215 (t232 != a0)))) else (wisplaw01_NumBack.j1 kj4 a0 a1 t215 true)))) else (wisplaw01_NumBack.j1 kj4 a0 a1 t215 true)))) else (wisplaw01_NumBack.j1 kj4 a0 a1 t215 true))) = some r := H
              have A24 := Aside0.mk A240
              clear A240
              replace H := Option.bind_eq_some_iff.mp H
              obtain ⟨t226, A250, H⟩ := H
              replace H : (if t225 = t226 then ((wisplaw01_one.f 28 a0).bind fun t227 => ((wisplaw01_one.f 28 t227).bind fun t228 => (if t228 = a0 then ((wisplaw01_one.f 39 a0).bind fun t229 => ((wisplaw01_one.f 39 t229).bind fun t230 => (if t230 = a0 then ((wisplaw01_one.f 32 a0).bind fun t231 => ((wisplaw01_one.f 33 t231).bind fun t232 => (wisplaw01_NumBack.j1 kj4 a0 a1 t215 (t232 != a0)))) else (wisplaw01_NumBack.j1 kj4 a0 a1 t215 true)))) else (wisplaw01_NumBack.j1 kj4 a0 a1 t215 true)))) else (wisplaw01_NumBack.j1 kj4 a0 a1 t215 true)) = some r := H
              have A25 := Aside0.mk A250
              clear A250
              by_cases c26 : t225 = t226
              · rw [if_pos c26] at H
                have c26b0 : (t225 == t226) = true := beq_iff_eq.mpr c26
                have c26b1 : (t225 != t226) = false := bne_eq_false_iff_eq.mpr c26
                clear c26
                replace H := Option.bind_eq_some_iff.mp H
                obtain ⟨t227, A270, H⟩ := H
                replace H : ((wisplaw01_one.f 28 t227).bind fun t228 => (if t228 = a0 then ((wisplaw01_one.f 39 a0).bind fun t229 => ((wisplaw01_one.f 39 t229).bind fun t230 => (if t230 = a0 then ((wisplaw01_one.f 32 a0).bind fun t231 => ((wisplaw01_one.f 33 t231).bind fun t232 => (wisplaw01_NumBack.j1 kj4 a0 a1 t215 (t232 != a0)))) else (wisplaw01_NumBack.j1 kj4 a0 a1 t215 true)))) else (wisplaw01_NumBack.j1 kj4 a0 a1 t215 true))) = some r := H
                have A27 := Aside0.mk A270
                clear A270
                replace H := Option.bind_eq_some_iff.mp H
                obtain ⟨t228, A280, H⟩ := H
                replace H : (if t228 = a0 then ((wisplaw01_one.f 39 a0).bind fun t229 => ((wisplaw01_one.f 39 t229).bind fun t230 => (if t230 = a0 then ((wisplaw01_one.f 32 a0).bind fun t231 => ((wisplaw01_one.f 33 t231).bind fun t232 => (wisplaw01_NumBack.j1 kj4 a0 a1 t215 (t232 != a0)))) else (wisplaw01_NumBack.j1 kj4 a0 a1 t215 true)))) else (wisplaw01_NumBack.j1 kj4 a0 a1 t215 true)) = some r := H
                have A28 := Aside0.mk A280
                clear A280
                by_cases c29 : t228 = a0
                · rw [if_pos c29] at H
                  have c29b0 : (t228 == a0) = true := beq_iff_eq.mpr c29
                  have c29b1 : (t228 != a0) = false := bne_eq_false_iff_eq.mpr c29
                  clear c29
                  replace H := Option.bind_eq_some_iff.mp H
                  obtain ⟨t229, A300, H⟩ := H
                  replace H : ((wisplaw01_one.f 39 t229).bind fun t230 => (if t230 = a0 then ((wisplaw01_one.f 32 a0).bind fun t231 => ((wisplaw01_one.f 33 t231).bind fun t232 => (wisplaw01_NumBack.j1 kj4 a0 a1 t215 (t232 != a0)))) else (wisplaw01_NumBack.j1 kj4 a0 a1 t215 true))) = some r := H
                  have A30 := Aside0.mk A300
                  clear A300
                  replace H := Option.bind_eq_some_iff.mp H
                  obtain ⟨t230, A310, H⟩ := H
                  replace H : (if t230 = a0 then ((wisplaw01_one.f 32 a0).bind fun t231 => ((wisplaw01_one.f 33 t231).bind fun t232 => (wisplaw01_NumBack.j1 kj4 a0 a1 t215 (t232 != a0)))) else (wisplaw01_NumBack.j1 kj4 a0 a1 t215 true)) = some r := H
                  have A31 := Aside0.mk A310
                  clear A310
                  by_cases c32 : t230 = a0
                  · rw [if_pos c32] at H
                    have c32b0 : (t230 == a0) = true := beq_iff_eq.mpr c32
                    have c32b1 : (t230 != a0) = false := bne_eq_false_iff_eq.mpr c32
                    clear c32
                    replace H := Option.bind_eq_some_iff.mp H
                    obtain ⟨t231, A330, H⟩ := H
                    replace H : ((wisplaw01_one.f 33 t231).bind fun t232 => (wisplaw01_NumBack.j1 kj4 a0 a1 t215 (t232 != a0))) = some r := H
                    have A33 := Aside0.mk A330
                    clear A330
                    replace H := Option.bind_eq_some_iff.mp H
                    obtain ⟨t232, A340, H⟩ := H
                    replace H : (wisplaw01_NumBack.j1 kj4 a0 a1 t215 (t232 != a0)) = some r := H
                    have A34 := Aside0.mk A340
                    clear A340
                    as_aux_lemma =>
                      have H' := Aside0.mk H
                      clear H
                      go_wp2_with (first | ((with_reducible refine gate_callee (f := 18) rfl ?_); refine goesL_ (some 42) rfl rfl Try.func18 (by kernel_rfl) rfl #[.int .i64 21, .int .u16 a0, .int .u16 a1] rfl (by (try simp only [List.map_toArray, List.map_cons, List.map_nil]); first | done | rfl | (simp only [List.length_drop, List.length_take]; rfl)) ?_; (with_reducible refine (wisplaw01_two.calls kj4 21 a0 a1 t221 _ A18.out).mono ?_); rintro e w' ⟨rfl, ⟨nd, rfl⟩⟩; refine ⟨_, rfl, ?_⟩) | ((with_reducible refine gate_callee (f := 18) rfl ?_); refine goesL_ (some 44) rfl rfl Try.func18 (by kernel_rfl) rfl #[.int .i64 22, .int .u16 t221, .int .u16 a1] rfl (by (try simp only [List.map_toArray, List.map_cons, List.map_nil]); first | done | rfl | (simp only [List.length_drop, List.length_take]; rfl)) ?_; (with_reducible refine (wisplaw01_two.calls kj4 22 t221 a1 t222 _ A19.out).mono ?_); rintro e w' ⟨rfl, ⟨nd, rfl⟩⟩; refine ⟨_, rfl, ?_⟩) | (go_at_call 18; (with_reducible refine (wisplaw01_two.calls kj4 21 a0 a1 t223 _ A21.out).mono ?_); rintro e w' ⟨rfl, ⟨nd, rfl⟩⟩) | (go_at_call 18; (with_reducible refine (wisplaw01_two.calls kj4 21 a1 a0 t224 _ A22.out).mono ?_); rintro e w' ⟨rfl, ⟨nd, rfl⟩⟩) | (go_at_call 18; (with_reducible refine (wisplaw01_two.calls kj4 23 a0 a1 t225 _ A24.out).mono ?_); rintro e w' ⟨rfl, ⟨nd, rfl⟩⟩) | (go_at_call 18; (with_reducible refine (wisplaw01_two.calls kj4 23 a1 a0 t226 _ A25.out).mono ?_); rintro e w' ⟨rfl, ⟨nd, rfl⟩⟩) | (go_at_call 19; (with_reducible refine (wisplaw01_one.calls 28 a0 t227 _ A27.out).mono ?_); rintro e w' ⟨rfl, ⟨nd, rfl⟩⟩) | (go_at_call 19; (with_reducible refine (wisplaw01_one.calls 28 t227 t228 _ A28.out).mono ?_); rintro e w' ⟨rfl, ⟨nd, rfl⟩⟩) | (go_at_call 19; (with_reducible refine (wisplaw01_one.calls 39 a0 t229 _ A30.out).mono ?_); rintro e w' ⟨rfl, ⟨nd, rfl⟩⟩) | (go_at_call 19; (with_reducible refine (wisplaw01_one.calls 39 t229 t230 _ A31.out).mono ?_); rintro e w' ⟨rfl, ⟨nd, rfl⟩⟩) | (go_at_call 19; (with_reducible refine (wisplaw01_one.calls 32 a0 t231 _ A33.out).mono ?_); rintro e w' ⟨rfl, ⟨nd, rfl⟩⟩) | (go_at_call 19; (with_reducible refine (wisplaw01_one.calls 33 t231 t232 _ A34.out).mono ?_); rintro e w' ⟨rfl, ⟨nd, rfl⟩⟩))
                      go_meet
                      case rel => exact ⟨_, ((t232 != a0)), (by first | rfl | (simp; done) | (simp [*]; done)), H', ⟨by have := HJ4.out; first | omega | exact Nat.le_refl _⟩, by repeat (first | exact Drawn0.refl _ | apply Drawn0.step)⟩
                  · rw [if_neg c32] at H
                    have c32b0 : (t230 == a0) = false := beq_eq_false_iff_ne.mpr c32
                    have c32b1 : (t230 != a0) = true := bne_iff_ne.mpr c32
                    as_aux_lemma =>
                      have H' := Aside0.mk H
                      clear H
                      go_wp2_with (first | ((with_reducible refine gate_callee (f := 18) rfl ?_); refine goesL_ (some 42) rfl rfl Try.func18 (by kernel_rfl) rfl #[.int .i64 21, .int .u16 a0, .int .u16 a1] rfl (by (try simp only [List.map_toArray, List.map_cons, List.map_nil]); first | done | rfl | (simp only [List.length_drop, List.length_take]; rfl)) ?_; (with_reducible refine (wisplaw01_two.calls kj4 21 a0 a1 t221 _ A18.out).mono ?_); rintro e w' ⟨rfl, ⟨nd, rfl⟩⟩; refine ⟨_, rfl, ?_⟩) | ((with_reducible refine gate_callee (f := 18) rfl ?_); refine goesL_ (some 44) rfl rfl Try.func18 (by kernel_rfl) rfl #[.int .i64 22, .int .u16 t221, .int .u16 a1] rfl (by (try simp only [List.map_toArray, List.map_cons, List.map_nil]); first | done | rfl | (simp only [List.length_drop, List.length_take]; rfl)) ?_; (with_reducible refine (wisplaw01_two.calls kj4 22 t221 a1 t222 _ A19.out).mono ?_); rintro e w' ⟨rfl, ⟨nd, rfl⟩⟩; refine ⟨_, rfl, ?_⟩) | (go_at_call 18; (with_reducible refine (wisplaw01_two.calls kj4 21 a0 a1 t223 _ A21.out).mono ?_); rintro e w' ⟨rfl, ⟨nd, rfl⟩⟩) | (go_at_call 18; (with_reducible refine (wisplaw01_two.calls kj4 21 a1 a0 t224 _ A22.out).mono ?_); rintro e w' ⟨rfl, ⟨nd, rfl⟩⟩) | (go_at_call 18; (with_reducible refine (wisplaw01_two.calls kj4 23 a0 a1 t225 _ A24.out).mono ?_); rintro e w' ⟨rfl, ⟨nd, rfl⟩⟩) | (go_at_call 18; (with_reducible refine (wisplaw01_two.calls kj4 23 a1 a0 t226 _ A25.out).mono ?_); rintro e w' ⟨rfl, ⟨nd, rfl⟩⟩) | (go_at_call 19; (with_reducible refine (wisplaw01_one.calls 28 a0 t227 _ A27.out).mono ?_); rintro e w' ⟨rfl, ⟨nd, rfl⟩⟩) | (go_at_call 19; (with_reducible refine (wisplaw01_one.calls 28 t227 t228 _ A28.out).mono ?_); rintro e w' ⟨rfl, ⟨nd, rfl⟩⟩) | (go_at_call 19; (with_reducible refine (wisplaw01_one.calls 39 a0 t229 _ A30.out).mono ?_); rintro e w' ⟨rfl, ⟨nd, rfl⟩⟩) | (go_at_call 19; (with_reducible refine (wisplaw01_one.calls 39 t229 t230 _ A31.out).mono ?_); rintro e w' ⟨rfl, ⟨nd, rfl⟩⟩))
                      go_meet
                      case rel => exact ⟨_, (true), (by first | rfl | (simp; done) | (simp [*]; done)), H', ⟨by have := HJ4.out; first | omega | exact Nat.le_refl _⟩, by repeat (first | exact Drawn0.refl _ | apply Drawn0.step)⟩
                · rw [if_neg c29] at H
                  have c29b0 : (t228 == a0) = false := beq_eq_false_iff_ne.mpr c29
                  have c29b1 : (t228 != a0) = true := bne_iff_ne.mpr c29
                  as_aux_lemma =>
                    have H' := Aside0.mk H
                    clear H
                    go_wp2_with (first | ((with_reducible refine gate_callee (f := 18) rfl ?_); refine goesL_ (some 42) rfl rfl Try.func18 (by kernel_rfl) rfl #[.int .i64 21, .int .u16 a0, .int .u16 a1] rfl (by (try simp only [List.map_toArray, List.map_cons, List.map_nil]); first | done | rfl | (simp only [List.length_drop, List.length_take]; rfl)) ?_; (with_reducible refine (wisplaw01_two.calls kj4 21 a0 a1 t221 _ A18.out).mono ?_); rintro e w' ⟨rfl, ⟨nd, rfl⟩⟩; refine ⟨_, rfl, ?_⟩) | ((with_reducible refine gate_callee (f := 18) rfl ?_); refine goesL_ (some 44) rfl rfl Try.func18 (by kernel_rfl) rfl #[.int .i64 22, .int .u16 t221, .int .u16 a1] rfl (by (try simp only [List.map_toArray, List.map_cons, List.map_nil]); first | done | rfl | (simp only [List.length_drop, List.length_take]; rfl)) ?_; (with_reducible refine (wisplaw01_two.calls kj4 22 t221 a1 t222 _ A19.out).mono ?_); rintro e w' ⟨rfl, ⟨nd, rfl⟩⟩; refine ⟨_, rfl, ?_⟩) | (go_at_call 18; (with_reducible refine (wisplaw01_two.calls kj4 21 a0 a1 t223 _ A21.out).mono ?_); rintro e w' ⟨rfl, ⟨nd, rfl⟩⟩) | (go_at_call 18; (with_reducible refine (wisplaw01_two.calls kj4 21 a1 a0 t224 _ A22.out).mono ?_); rintro e w' ⟨rfl, ⟨nd, rfl⟩⟩) | (go_at_call 18; (with_reducible refine (wisplaw01_two.calls kj4 23 a0 a1 t225 _ A24.out).mono ?_); rintro e w' ⟨rfl, ⟨nd, rfl⟩⟩) | (go_at_call 18; (with_reducible refine (wisplaw01_two.calls kj4 23 a1 a0 t226 _ A25.out).mono ?_); rintro e w' ⟨rfl, ⟨nd, rfl⟩⟩) | (go_at_call 19; (with_reducible refine (wisplaw01_one.calls 28 a0 t227 _ A27.out).mono ?_); rintro e w' ⟨rfl, ⟨nd, rfl⟩⟩) | (go_at_call 19; (with_reducible refine (wisplaw01_one.calls 28 t227 t228 _ A28.out).mono ?_); rintro e w' ⟨rfl, ⟨nd, rfl⟩⟩))
                    go_meet
                    case rel => exact ⟨_, (true), (by first | rfl | (simp; done) | (simp [*]; done)), H', ⟨by have := HJ4.out; first | omega | exact Nat.le_refl _⟩, by repeat (first | exact Drawn0.refl _ | apply Drawn0.step)⟩
              · rw [if_neg c26] at H
                have c26b0 : (t225 == t226) = false := beq_eq_false_iff_ne.mpr c26
                have c26b1 : (t225 != t226) = true := bne_iff_ne.mpr c26
                as_aux_lemma =>
                  have H' := Aside0.mk H
                  clear H
                  go_wp2_with (first | ((with_reducible refine gate_callee (f := 18) rfl ?_); refine goesL_ (some 42) rfl rfl Try.func18 (by kernel_rfl) rfl #[.int .i64 21, .int .u16 a0, .int .u16 a1] rfl (by (try simp only [List.map_toArray, List.map_cons, List.map_nil]); first | done | rfl | (simp only [List.length_drop, List.length_take]; rfl)) ?_; (with_reducible refine (wisplaw01_two.calls kj4 21 a0 a1 t221 _ A18.out).mono ?_); rintro e w' ⟨rfl, ⟨nd, rfl⟩⟩; refine ⟨_, rfl, ?_⟩) | ((with_reducible refine gate_callee (f := 18) rfl ?_); refine goesL_ (some 44) rfl rfl Try.func18 (by kernel_rfl) rfl #[.int .i64 22, .int .u16 t221, .int .u16 a1] rfl (by (try simp only [List.map_toArray, List.map_cons, List.map_nil]); first | done | rfl | (simp only [List.length_drop, List.length_take]; rfl)) ?_; (with_reducible refine (wisplaw01_two.calls kj4 22 t221 a1 t222 _ A19.out).mono ?_); rintro e w' ⟨rfl, ⟨nd, rfl⟩⟩; refine ⟨_, rfl, ?_⟩) | (go_at_call 18; (with_reducible refine (wisplaw01_two.calls kj4 21 a0 a1 t223 _ A21.out).mono ?_); rintro e w' ⟨rfl, ⟨nd, rfl⟩⟩) | (go_at_call 18; (with_reducible refine (wisplaw01_two.calls kj4 21 a1 a0 t224 _ A22.out).mono ?_); rintro e w' ⟨rfl, ⟨nd, rfl⟩⟩) | (go_at_call 18; (with_reducible refine (wisplaw01_two.calls kj4 23 a0 a1 t225 _ A24.out).mono ?_); rintro e w' ⟨rfl, ⟨nd, rfl⟩⟩) | (go_at_call 18; (with_reducible refine (wisplaw01_two.calls kj4 23 a1 a0 t226 _ A25.out).mono ?_); rintro e w' ⟨rfl, ⟨nd, rfl⟩⟩))
                  go_meet
                  case rel => exact ⟨_, (true), (by first | rfl | (simp; done) | (simp [*]; done)), H', ⟨by have := HJ4.out; first | omega | exact Nat.le_refl _⟩, by repeat (first | exact Drawn0.refl _ | apply Drawn0.step)⟩
            · rw [if_neg c23] at H
              have c23b0 : (t223 == t224) = false := beq_eq_false_iff_ne.mpr c23
              have c23b1 : (t223 != t224) = true := bne_iff_ne.mpr c23
              as_aux_lemma =>
                have H' := Aside0.mk H
                clear H
                go_wp2_with (first | ((with_reducible refine gate_callee (f := 18) rfl ?_); refine goesL_ (some 42) rfl rfl Try.func18 (by kernel_rfl) rfl #[.int .i64 21, .int .u16 a0, .int .u16 a1] rfl (by (try simp only [List.map_toArray, List.map_cons, List.map_nil]); first | done | rfl | (simp only [List.length_drop, List.length_take]; rfl)) ?_; (with_reducible refine (wisplaw01_two.calls kj4 21 a0 a1 t221 _ A18.out).mono ?_); rintro e w' ⟨rfl, ⟨nd, rfl⟩⟩; refine ⟨_, rfl, ?_⟩) | ((with_reducible refine gate_callee (f := 18) rfl ?_); refine goesL_ (some 44) rfl rfl Try.func18 (by kernel_rfl) rfl #[.int .i64 22, .int .u16 t221, .int .u16 a1] rfl (by (try simp only [List.map_toArray, List.map_cons, List.map_nil]); first | done | rfl | (simp only [List.length_drop, List.length_take]; rfl)) ?_; (with_reducible refine (wisplaw01_two.calls kj4 22 t221 a1 t222 _ A19.out).mono ?_); rintro e w' ⟨rfl, ⟨nd, rfl⟩⟩; refine ⟨_, rfl, ?_⟩) | (go_at_call 18; (with_reducible refine (wisplaw01_two.calls kj4 21 a0 a1 t223 _ A21.out).mono ?_); rintro e w' ⟨rfl, ⟨nd, rfl⟩⟩) | (go_at_call 18; (with_reducible refine (wisplaw01_two.calls kj4 21 a1 a0 t224 _ A22.out).mono ?_); rintro e w' ⟨rfl, ⟨nd, rfl⟩⟩))
                go_meet
                case rel => exact ⟨_, (true), (by first | rfl | (simp; done) | (simp [*]; done)), H', ⟨by have := HJ4.out; first | omega | exact Nat.le_refl _⟩, by repeat (first | exact Drawn0.refl _ | apply Drawn0.step)⟩
          · rw [if_neg c20] at H
            have c20b0 : (t222 == a0) = false := beq_eq_false_iff_ne.mpr c20
            have c20b1 : (t222 != a0) = true := bne_iff_ne.mpr c20
            (first | rw [c20b0] | (simp only [i64_w, i32_w]; rw [c20b0]) | skip)
            as_aux_lemma =>
              have H' := Aside0.mk H
              clear H
              go_wp2_with (first | ((with_reducible refine gate_callee (f := 18) rfl ?_); refine goesL_ (some 42) rfl rfl Try.func18 (by kernel_rfl) rfl #[.int .i64 21, .int .u16 a0, .int .u16 a1] rfl (by (try simp only [List.map_toArray, List.map_cons, List.map_nil]); first | done | rfl | (simp only [List.length_drop, List.length_take]; rfl)) ?_; (with_reducible refine (wisplaw01_two.calls kj4 21 a0 a1 t221 _ A18.out).mono ?_); rintro e w' ⟨rfl, ⟨nd, rfl⟩⟩; refine ⟨_, rfl, ?_⟩) | ((with_reducible refine gate_callee (f := 18) rfl ?_); refine goesL_ (some 44) rfl rfl Try.func18 (by kernel_rfl) rfl #[.int .i64 22, .int .u16 t221, .int .u16 a1] rfl (by (try simp only [List.map_toArray, List.map_cons, List.map_nil]); first | done | rfl | (simp only [List.length_drop, List.length_take]; rfl)) ?_; (with_reducible refine (wisplaw01_two.calls kj4 22 t221 a1 t222 _ A19.out).mono ?_); rintro e w' ⟨rfl, ⟨nd, rfl⟩⟩; refine ⟨_, rfl, ?_⟩))
              go_meet
              case rel => exact ⟨_, (true), (by first | rfl | (simp; done) | (simp [*]; done)), H', ⟨by have := HJ4.out; first | omega | exact Nat.le_refl _⟩, by repeat (first | exact Drawn0.refl _ | apply Drawn0.step)⟩
        case rest =>
          clear HC17
          try clear c1
          try clear c2
          try clear p2
          try clear c3
          try clear c4
          try clear c5
          try clear p6
          try clear c7
          try clear c7b0
          try clear c7b1
          try clear c8
          try clear c8b0
          try clear c9
          try clear c9b0
          try clear c10
          try clear c12
          try clear c12b0
          try clear c12b1
          try clear c14
          try clear c14b0
          try clear c16
          try clear c18
          try clear c20
          try clear c20b0
          try clear c20b1
          try clear c23
          try clear c23b0
          try clear c23b1
          try clear c26
          try clear c26b0
          try clear c26b1
          try clear c29
          try clear c29b0
          try clear c29b1
          try clear c32
          try clear c32b0
          try clear c32b1
          try clear p2
          try clear p6
          obtain ⟨kq, x85_16, rfl, HA, HJ16, ⟨mc16, rfl⟩⟩ := hcut
          cases kq with
          | zero => exact absurd HA.out (by simp [wisplaw01_NumBack.j1])
          | succ kj16 =>
            have H := HA.out
            clear HA
            simp only [wisplaw01_NumBack.j1] at H
            by_cases c35 : x85_16 = true
            · subst c35
              have H1 : (some false) = some r := by rw [if_pos rfl] at H; exact H
              clear H
              have H := H1
              clear H1
              as_aux_lemma =>
                obtain rfl := Option.some.inj H
                go_wp2
                go_ret
                exact ⟨by first | rfl | (simp; done) | (simp [*]; done), by repeat (first | exact Drawn0.refl _ | apply Drawn0.step)⟩
            · replace c35 := Bool.eq_false_iff.mpr c35
              subst c35
              have H1 : ((wisplaw01_one.f 34 a0).bind fun t233 => ((wisplaw01_two.f kj16 21 a0 a0).bind fun t234 => (if t233 = t234 then ((wisplaw01_one.f 34 a0).bind fun t235 => ((wisplaw01_two.f kj16 40 a0 1).bind fun t236 => (if t235 = t236 then ((wisplaw01_two.f kj16 41 a0 1).bind fun t237 => ((wisplaw01_two.f kj16 26 a0 2).bind fun t238 => (if t237 = t238 then ((wisplaw01_one.f 28 a0).bind fun t239 => ((wisplaw01_two.f kj16 22 0 a0).bind fun t240 => (if t239 = t240 then ((wisplaw01_two.f kj16 38 a0 65535).bind fun t241 => ((wisplaw01_one.f 39 a0).bind fun t242 => (if t241 = t242 then ((wisplaw01_two.f kj16 38 a0 a1).bind fun t243 => ((wisplaw01_two.f kj16 38 t243 a1).bind fun t244 => (wisplaw01_NumBack.j2 kj16 a0 a1 t215 (t244 != a0)))) else (wisplaw01_NumBack.j2 kj16 a0 a1 t215 true)))) else (wisplaw01_NumBack.j2 kj16 a0 a1 t215 true)))) else (wisplaw01_NumBack.j2 kj16 a0 a1 t215 true)))) else (wisplaw01_NumBack.j2 kj16 a0 a1 t215 true)))) else (wisplaw01_NumBack.j2 kj16 a0 a1 t215 true)))) = some r := by rw [if_neg (show ¬ (false = true) by decide)] at H; exact H
              clear H
              have H := H1
              clear H1
              have HC36 := Aside0.mk H
              clear H
              go_upto_region 6 with (fail)
              go_cut [128] (fun v128 wc => ∃ (kq : Nat) (x128_35 : Bool), v128 = .bool x128_35 ∧ Aside0 (wisplaw01_NumBack.j2 kq a0 a1 t215 x128_35 = some r) ∧ Aside0 (kq ≤ kj16) ∧ Drawn0 w wc)
              case first =>
                have H := HC36.out
                clear HC36
                replace H := Option.bind_eq_some_iff.mp H
                obtain ⟨t233, A370, H⟩ := H
                replace H : ((wisplaw01_two.f kj16 21 a0 a0).bind fun t234 => (if t233 = t234 then ((wisplaw01_one.f 34 a0).bind fun t235 => ((wisplaw01_two.f kj16 40 a0 1).bind fun t236 => (if t235 = t236 then ((wisplaw01_two.f kj16 41 a0 1).bind fun t237 => ((wisplaw01_two.f kj16 26 a0 2).bind fun t238 => (if t237 = t238 then ((wisplaw01_one.f 28 a0).bind fun t239 => ((wisplaw01_two.f kj16 22 0 a0).bind fun t240 => (if t239 = t240 then ((wisplaw01_two.f kj16 38 a0 65535).bind fun t241 => ((wisplaw01_one.f 39 a0).bind fun t242 => (if t241 = t242 then ((wisplaw01_two.f kj16 38 a0 a1).bind fun t243 => ((wisplaw01_two.f kj16 38 t243 a1).bind fun t244 => (wisplaw01_NumBack.j2 kj16 a0 a1 t215 (t244 != a0)))) else (wisplaw01_NumBack.j2 kj16 a0 a1 t215 true)))) else (wisplaw01_NumBack.j2 kj16 a0 a1 t215 true)))) else (wisplaw01_NumBack.j2 kj16 a0 a1 t215 true)))) else (wisplaw01_NumBack.j2 kj16 a0 a1 t215 true)))) else (wisplaw01_NumBack.j2 kj16 a0 a1 t215 true))) = some r := H
                have A37 := Aside0.mk A370
                clear A370
                replace H := Option.bind_eq_some_iff.mp H
                obtain ⟨t234, A380, H⟩ := H
                replace H : (if t233 = t234 then ((wisplaw01_one.f 34 a0).bind fun t235 => ((wisplaw01_two.f kj16 40 a0 1).bind fun t236 => (if t235 = t236 then ((wisplaw01_two.f kj16 41 a0 1).bind fun t237 => ((wisplaw01_two.f kj16 26 a0 2).bind fun t238 => (if t237 = t238 then ((wisplaw01_one.f 28 a0).bind fun t239 => ((wisplaw01_two.f kj16 22 0 a0).bind fun t240 => (if t239 = t240 then ((wisplaw01_two.f kj16 38 a0 65535).bind fun t241 => ((wisplaw01_one.f 39 a0).bind fun t242 => (if t241 = t242 then ((wisplaw01_two.f kj16 38 a0 a1).bind fun t243 => ((wisplaw01_two.f kj16 38 t243 a1).bind fun t244 => (wisplaw01_NumBack.j2 kj16 a0 a1 t215 (t244 != a0)))) else (wisplaw01_NumBack.j2 kj16 a0 a1 t215 true)))) else (wisplaw01_NumBack.j2 kj16 a0 a1 t215 true)))) else (wisplaw01_NumBack.j2 kj16 a0 a1 t215 true)))) else (wisplaw01_NumBack.j2 kj16 a0 a1 t215 true)))) else (wisplaw01_NumBack.j2 kj16 a0 a1 t215 true)) = some r := H
                have A38 := Aside0.mk A380
                clear A380
                by_cases c39 : t233 = t234
                · rw [if_pos c39] at H
                  have c39b0 : (t233 == t234) = true := beq_iff_eq.mpr c39
                  have c39b1 : (t233 != t234) = false := bne_eq_false_iff_eq.mpr c39
                  clear c39
                  (first | rw [c39b0] | (simp only [i64_w, i32_w]; rw [c39b0]) | skip)
                  replace H := Option.bind_eq_some_iff.mp H
                  obtain ⟨t235, A400, H⟩ := H
                  replace H : ((wisplaw01_two.f kj16 40 a0 1).bind fun t236 => (if t235 = t236 then ((wisplaw01_two.f kj16 41 a0 1).bind fun t237 => ((wisplaw01_two.f kj16 26 a0 2).bind fun t238 => (if t237 = t238 then ((wisplaw01_one.f 28 a0).bind fun t239 => ((wisplaw01_two.f kj16 22 0 a0).bind fun t240 => (if t239 = t240 then ((wisplaw01_two.f kj16 38 a0 65535).bind fun t241 => ((wisplaw01_one.f 39 a0).bind fun t242 => (if t241 = t242 then ((wisplaw01_two.f kj16 38 a0 a1).bind fun t243 => ((wisplaw01_two.f kj16 38 t243 a1).bind fun t244 => (wisplaw01_NumBack.j2 kj16 a0 a1 t215 (t244 != a0)))) else (wisplaw01_NumBack.j2 kj16 a0 a1 t215 true)))) else (wisplaw01_NumBack.j2 kj16 a0 a1 t215 true)))) else (wisplaw01_NumBack.j2 kj16 a0 a1 t215 true)))) else (wisplaw01_NumBack.j2 kj16 a0 a1 t215 true))) = some r := H
                  have A40 := Aside0.mk A400
                  clear A400
                  replace H := Option.bind_eq_some_iff.mp H
                  obtain ⟨t236, A410, H⟩ := H
                  replace H : (if t235 = t236 then ((wisplaw01_two.f kj16 41 a0 1).bind fun t237 => ((wisplaw01_two.f kj16 26 a0 2).bind fun t238 => (if t237 = t238 then ((wisplaw01_one.f 28 a0).bind fun t239 => ((wisplaw01_two.f kj16 22 0 a0).bind fun t240 => (if t239 = t240 then ((wisplaw01_two.f kj16 38 a0 65535).bind fun t241 => ((wisplaw01_one.f 39 a0).bind fun t242 => (if t241 = t242 then ((wisplaw01_two.f kj16 38 a0 a1).bind fun t243 => ((wisplaw01_two.f kj16 38 t243 a1).bind fun t244 => (wisplaw01_NumBack.j2 kj16 a0 a1 t215 (t244 != a0)))) else (wisplaw01_NumBack.j2 kj16 a0 a1 t215 true)))) else (wisplaw01_NumBack.j2 kj16 a0 a1 t215 true)))) else (wisplaw01_NumBack.j2 kj16 a0 a1 t215 true)))) else (wisplaw01_NumBack.j2 kj16 a0 a1 t215 true)) = some r := H
                  have A41 := Aside0.mk A410
                  clear A410
                  by_cases c42 : t235 = t236
                  · rw [if_pos c42] at H
                    have c42b0 : (t235 == t236) = true := beq_iff_eq.mpr c42
                    have c42b1 : (t235 != t236) = false := bne_eq_false_iff_eq.mpr c42
                    clear c42
                    replace H := Option.bind_eq_some_iff.mp H
                    obtain ⟨t237, A430, H⟩ := H
                    replace H : ((wisplaw01_two.f kj16 26 a0 2).bind fun t238 => (if t237 = t238 then ((wisplaw01_one.f 28 a0).bind fun t239 => ((wisplaw01_two.f kj16 22 0 a0).bind fun t240 => (if t239 = t240 then ((wisplaw01_two.f kj16 38 a0 65535).bind fun t241 => ((wisplaw01_one.f 39 a0).bind fun t242 => (if t241 = t242 then ((wisplaw01_two.f kj16 38 a0 a1).bind fun t243 => ((wisplaw01_two.f kj16 38 t243 a1).bind fun t244 => (wisplaw01_NumBack.j2 kj16 a0 a1 t215 (t244 != a0)))) else (wisplaw01_NumBack.j2 kj16 a0 a1 t215 true)))) else (wisplaw01_NumBack.j2 kj16 a0 a1 t215 true)))) else (wisplaw01_NumBack.j2 kj16 a0 a1 t215 true))) = some r := H
                    have A43 := Aside0.mk A430
                    clear A430
                    replace H := Option.bind_eq_some_iff.mp H
                    obtain ⟨t238, A440, H⟩ := H
                    replace H : (if t237 = t238 then ((wisplaw01_one.f 28 a0).bind fun t239 => ((wisplaw01_two.f kj16 22 0 a0).bind fun t240 => (if t239 = t240 then ((wisplaw01_two.f kj16 38 a0 65535).bind fun t241 => ((wisplaw01_one.f 39 a0).bind fun t242 => (if t241 = t242 then ((wisplaw01_two.f kj16 38 a0 a1).bind fun t243 => ((wisplaw01_two.f kj16 38 t243 a1).bind fun t244 => (wisplaw01_NumBack.j2 kj16 a0 a1 t215 (t244 != a0)))) else (wisplaw01_NumBack.j2 kj16 a0 a1 t215 true)))) else (wisplaw01_NumBack.j2 kj16 a0 a1 t215 true)))) else (wisplaw01_NumBack.j2 kj16 a0 a1 t215 true)) = some r := H
                    have A44 := Aside0.mk A440
                    clear A440
                    by_cases c45 : t237 = t238
                    · rw [if_pos c45] at H
                      have c45b0 : (t237 == t238) = true := beq_iff_eq.mpr c45
                      have c45b1 : (t237 != t238) = false := bne_eq_false_iff_eq.mpr c45
                      clear c45
                      replace H := Option.bind_eq_some_iff.mp H
                      obtain ⟨t239, A460, H⟩ := H
                      replace H : ((wisplaw01_two.f kj16 22 0 a0).bind fun t240 => (if t239 = t240 then ((wisplaw01_two.f kj16 38 a0 65535).bind fun t241 => ((wisplaw01_one.f 39 a0).bind fun t242 => (if t241 = t242 then ((wisplaw01_two.f kj16 38 a0 a1).bind fun t243 => ((wisplaw01_two.f kj16 38 t243 a1).bind fun t244 => (wisplaw01_NumBack.j2 kj16 a0 a1 t215 (t244 != a0)))) else (wisplaw01_NumBack.j2 kj16 a0 a1 t215 true)))) else (wisplaw01_NumBack.j2 kj16 a0 a1 t215 true))) = some r := H
                      have A46 := Aside0.mk A460
                      clear A460
                      replace H := Option.bind_eq_some_iff.mp H
                      obtain ⟨t240, A470, H⟩ := H
                      replace H : (if t239 = t240 then ((wisplaw01_two.f kj16 38 a0 65535).bind fun t241 => ((wisplaw01_one.f 39 a0).bind fun t242 => (if t241 = t242 then ((wisplaw01_two.f kj16 38 a0 a1).bind fun t243 => ((wisplaw01_two.f kj16 38 t243 a1).bind fun t244 => (wisplaw01_NumBack.j2 kj16 a0 a1 t215 (t244 != a0)))) else (wisplaw01_NumBack.j2 kj16 a0 a1 t215 true)))) else (wisplaw01_NumBack.j2 kj16 a0 a1 t215 true)) = some r := H
                      have A47 := Aside0.mk A470
                      clear A470
                      by_cases c48 : t239 = t240
                      · rw [if_pos c48] at H
                        have c48b0 : (t239 == t240) = true := beq_iff_eq.mpr c48
                        have c48b1 : (t239 != t240) = false := bne_eq_false_iff_eq.mpr c48
                        clear c48
                        replace H := Option.bind_eq_some_iff.mp H
                        obtain ⟨t241, A490, H⟩ := H
                        replace H : ((wisplaw01_one.f 39 a0).bind fun t242 => (if t241 = t242 then ((wisplaw01_two.f kj16 38 a0 a1).bind fun t243 => ((wisplaw01_two.f kj16 38 t243 a1).bind fun t244 => (wisplaw01_NumBack.j2 kj16 a0 a1 t215 (t244 != a0)))) else (wisplaw01_NumBack.j2 kj16 a0 a1 t215 true))) = some r := H
                        have A49 := Aside0.mk A490
                        clear A490
                        replace H := Option.bind_eq_some_iff.mp H
                        obtain ⟨t242, A500, H⟩ := H
                        replace H : (if t241 = t242 then ((wisplaw01_two.f kj16 38 a0 a1).bind fun t243 => ((wisplaw01_two.f kj16 38 t243 a1).bind fun t244 => (wisplaw01_NumBack.j2 kj16 a0 a1 t215 (t244 != a0)))) else (wisplaw01_NumBack.j2 kj16 a0 a1 t215 true)) = some r := H
                        have A50 := Aside0.mk A500
                        clear A500
                        by_cases c51 : t241 = t242
                        · rw [if_pos c51] at H
                          have c51b0 : (t241 == t242) = true := beq_iff_eq.mpr c51
                          have c51b1 : (t241 != t242) = false := bne_eq_false_iff_eq.mpr c51
                          clear c51
                          replace H := Option.bind_eq_some_iff.mp H
                          obtain ⟨t243, A520, H⟩ := H
                          replace H : ((wisplaw01_two.f kj16 38 t243 a1).bind fun t244 => (wisplaw01_NumBack.j2 kj16 a0 a1 t215 (t244 != a0))) = some r := H
                          have A52 := Aside0.mk A520
                          clear A520
                          replace H := Option.bind_eq_some_iff.mp H
                          obtain ⟨t244, A530, H⟩ := H
                          replace H : (wisplaw01_NumBack.j2 kj16 a0 a1 t215 (t244 != a0)) = some r := H
                          have A53 := Aside0.mk A530
                          clear A530
                          as_aux_lemma =>
                            have H' := Aside0.mk H
                            clear H
                            go_wp2_with (first | ((with_reducible refine gate_callee (f := 19) rfl ?_); refine goesL_ (some 87) rfl rfl Try.func19 (by kernel_rfl) rfl #[.int .i64 34, .int .u16 a0] rfl (by (try simp only [List.map_toArray, List.map_cons, List.map_nil]); first | done | rfl | (simp only [List.length_drop, List.length_take]; rfl)) ?_; (with_reducible refine (wisplaw01_one.calls 34 a0 t233 _ A37.out).mono ?_); rintro e w' ⟨rfl, ⟨nd, rfl⟩⟩; refine ⟨_, rfl, ?_⟩) | ((with_reducible refine gate_callee (f := 18) rfl ?_); refine goesL_ (some 90) rfl rfl Try.func18 (by kernel_rfl) rfl #[.int .i64 21, .int .u16 a0, .int .u16 a0] rfl (by (try simp only [List.map_toArray, List.map_cons, List.map_nil]); first | done | rfl | (simp only [List.length_drop, List.length_take]; rfl)) ?_; (with_reducible refine (wisplaw01_two.calls kj16 21 a0 a0 t234 _ A38.out).mono ?_); rintro e w' ⟨rfl, ⟨nd, rfl⟩⟩; refine ⟨_, rfl, ?_⟩) | (go_at_call 19; (with_reducible refine (wisplaw01_one.calls 34 a0 t235 _ A40.out).mono ?_); rintro e w' ⟨rfl, ⟨nd, rfl⟩⟩) | (go_at_call 18; (with_reducible refine (wisplaw01_two.calls kj16 40 a0 1 t236 _ A41.out).mono ?_); rintro e w' ⟨rfl, ⟨nd, rfl⟩⟩) | (go_at_call 18; (with_reducible refine (wisplaw01_two.calls kj16 41 a0 1 t237 _ A43.out).mono ?_); rintro e w' ⟨rfl, ⟨nd, rfl⟩⟩) | (go_at_call 18; (with_reducible refine (wisplaw01_two.calls kj16 26 a0 2 t238 _ A44.out).mono ?_); rintro e w' ⟨rfl, ⟨nd, rfl⟩⟩) | (go_at_call 19; (with_reducible refine (wisplaw01_one.calls 28 a0 t239 _ A46.out).mono ?_); rintro e w' ⟨rfl, ⟨nd, rfl⟩⟩) | (go_at_call 18; (with_reducible refine (wisplaw01_two.calls kj16 22 0 a0 t240 _ A47.out).mono ?_); rintro e w' ⟨rfl, ⟨nd, rfl⟩⟩) | (go_at_call 18; (with_reducible refine (wisplaw01_two.calls kj16 38 a0 65535 t241 _ A49.out).mono ?_); rintro e w' ⟨rfl, ⟨nd, rfl⟩⟩) | (go_at_call 19; (with_reducible refine (wisplaw01_one.calls 39 a0 t242 _ A50.out).mono ?_); rintro e w' ⟨rfl, ⟨nd, rfl⟩⟩) | (go_at_call 18; (with_reducible refine (wisplaw01_two.calls kj16 38 a0 a1 t243 _ A52.out).mono ?_); rintro e w' ⟨rfl, ⟨nd, rfl⟩⟩) | (go_at_call 18; (with_reducible refine (wisplaw01_two.calls kj16 38 t243 a1 t244 _ A53.out).mono ?_); rintro e w' ⟨rfl, ⟨nd, rfl⟩⟩))
                            go_meet
                            case rel => exact ⟨_, ((t244 != a0)), (by first | rfl | (simp; done) | (simp [*]; done)), H', ⟨by have := HJ4.out; have := HJ16.out; first | omega | exact Nat.le_refl _⟩, by repeat (first | exact Drawn0.refl _ | apply Drawn0.step)⟩
                        · rw [if_neg c51] at H
                          have c51b0 : (t241 == t242) = false := beq_eq_false_iff_ne.mpr c51
                          have c51b1 : (t241 != t242) = true := bne_iff_ne.mpr c51
                          as_aux_lemma =>
                            have H' := Aside0.mk H
                            clear H
                            go_wp2_with (first | ((with_reducible refine gate_callee (f := 19) rfl ?_); refine goesL_ (some 87) rfl rfl Try.func19 (by kernel_rfl) rfl #[.int .i64 34, .int .u16 a0] rfl (by (try simp only [List.map_toArray, List.map_cons, List.map_nil]); first | done | rfl | (simp only [List.length_drop, List.length_take]; rfl)) ?_; (with_reducible refine (wisplaw01_one.calls 34 a0 t233 _ A37.out).mono ?_); rintro e w' ⟨rfl, ⟨nd, rfl⟩⟩; refine ⟨_, rfl, ?_⟩) | ((with_reducible refine gate_callee (f := 18) rfl ?_); refine goesL_ (some 90) rfl rfl Try.func18 (by kernel_rfl) rfl #[.int .i64 21, .int .u16 a0, .int .u16 a0] rfl (by (try simp only [List.map_toArray, List.map_cons, List.map_nil]); first | done | rfl | (simp only [List.length_drop, List.length_take]; rfl)) ?_; (with_reducible refine (wisplaw01_two.calls kj16 21 a0 a0 t234 _ A38.out).mono ?_); rintro e w' ⟨rfl, ⟨nd, rfl⟩⟩; refine ⟨_, rfl, ?_⟩) | (go_at_call 19; (with_reducible refine (wisplaw01_one.calls 34 a0 t235 _ A40.out).mono ?_); rintro e w' ⟨rfl, ⟨nd, rfl⟩⟩) | (go_at_call 18; (with_reducible refine (wisplaw01_two.calls kj16 40 a0 1 t236 _ A41.out).mono ?_); rintro e w' ⟨rfl, ⟨nd, rfl⟩⟩) | (go_at_call 18; (with_reducible refine (wisplaw01_two.calls kj16 41 a0 1 t237 _ A43.out).mono ?_); rintro e w' ⟨rfl, ⟨nd, rfl⟩⟩) | (go_at_call 18; (with_reducible refine (wisplaw01_two.calls kj16 26 a0 2 t238 _ A44.out).mono ?_); rintro e w' ⟨rfl, ⟨nd, rfl⟩⟩) | (go_at_call 19; (with_reducible refine (wisplaw01_one.calls 28 a0 t239 _ A46.out).mono ?_); rintro e w' ⟨rfl, ⟨nd, rfl⟩⟩) | (go_at_call 18; (with_reducible refine (wisplaw01_two.calls kj16 22 0 a0 t240 _ A47.out).mono ?_); rintro e w' ⟨rfl, ⟨nd, rfl⟩⟩) | (go_at_call 18; (with_reducible refine (wisplaw01_two.calls kj16 38 a0 65535 t241 _ A49.out).mono ?_); rintro e w' ⟨rfl, ⟨nd, rfl⟩⟩) | (go_at_call 19; (with_reducible refine (wisplaw01_one.calls 39 a0 t242 _ A50.out).mono ?_); rintro e w' ⟨rfl, ⟨nd, rfl⟩⟩))
                            go_meet
                            case rel => exact ⟨_, (true), (by first | rfl | (simp; done) | (simp [*]; done)), H', ⟨by have := HJ4.out; have := HJ16.out; first | omega | exact Nat.le_refl _⟩, by repeat (first | exact Drawn0.refl _ | apply Drawn0.step)⟩
                      · rw [if_neg c48] at H
                        have c48b0 : (t239 == t240) = false := beq_eq_false_iff_ne.mpr c48
                        have c48b1 : (t239 != t240) = true := bne_iff_ne.mpr c48
                        as_aux_lemma =>
                          have H' := Aside0.mk H
                          clear H
                          go_wp2_with (first | ((with_reducible refine gate_callee (f := 19) rfl ?_); refine goesL_ (some 87) rfl rfl Try.func19 (by kernel_rfl) rfl #[.int .i64 34, .int .u16 a0] rfl (by (try simp only [List.map_toArray, List.map_cons, List.map_nil]); first | done | rfl | (simp only [List.length_drop, List.length_take]; rfl)) ?_; (with_reducible refine (wisplaw01_one.calls 34 a0 t233 _ A37.out).mono ?_); rintro e w' ⟨rfl, ⟨nd, rfl⟩⟩; refine ⟨_, rfl, ?_⟩) | ((with_reducible refine gate_callee (f := 18) rfl ?_); refine goesL_ (some 90) rfl rfl Try.func18 (by kernel_rfl) rfl #[.int .i64 21, .int .u16 a0, .int .u16 a0] rfl (by (try simp only [List.map_toArray, List.map_cons, List.map_nil]); first | done | rfl | (simp only [List.length_drop, List.length_take]; rfl)) ?_; (with_reducible refine (wisplaw01_two.calls kj16 21 a0 a0 t234 _ A38.out).mono ?_); rintro e w' ⟨rfl, ⟨nd, rfl⟩⟩; refine ⟨_, rfl, ?_⟩) | (go_at_call 19; (with_reducible refine (wisplaw01_one.calls 34 a0 t235 _ A40.out).mono ?_); rintro e w' ⟨rfl, ⟨nd, rfl⟩⟩) | (go_at_call 18; (with_reducible refine (wisplaw01_two.calls kj16 40 a0 1 t236 _ A41.out).mono ?_); rintro e w' ⟨rfl, ⟨nd, rfl⟩⟩) | (go_at_call 18; (with_reducible refine (wisplaw01_two.calls kj16 41 a0 1 t237 _ A43.out).mono ?_); rintro e w' ⟨rfl, ⟨nd, rfl⟩⟩) | (go_at_call 18; (with_reducible refine (wisplaw01_two.calls kj16 26 a0 2 t238 _ A44.out).mono ?_); rintro e w' ⟨rfl, ⟨nd, rfl⟩⟩) | (go_at_call 19; (with_reducible refine (wisplaw01_one.calls 28 a0 t239 _ A46.out).mono ?_); rintro e w' ⟨rfl, ⟨nd, rfl⟩⟩) | (go_at_call 18; (with_reducible refine (wisplaw01_two.calls kj16 22 0 a0 t240 _ A47.out).mono ?_); rintro e w' ⟨rfl, ⟨nd, rfl⟩⟩))
                          go_meet
                          case rel => exact ⟨_, (true), (by first | rfl | (simp; done) | (simp [*]; done)), H', ⟨by have := HJ4.out; have := HJ16.out; first | omega | exact Nat.le_refl _⟩, by repeat (first | exact Drawn0.refl _ | apply Drawn0.step)⟩
                    · rw [if_neg c45] at H
                      have c45b0 : (t237 == t238) = false := beq_eq_false_iff_ne.mpr c45
                      have c45b1 : (t237 != t238) = true := bne_iff_ne.mpr c45
                      as_aux_lemma =>
                        have H' := Aside0.mk H
                        clear H
                        go_wp2_with (first | ((with_reducible refine gate_callee (f := 19) rfl ?_); refine goesL_ (some 87) rfl rfl Try.func19 (by kernel_rfl) rfl #[.int .i64 34, .int .u16 a0] rfl (by (try simp only [List.map_toArray, List.map_cons, List.map_nil]); first | done | rfl | (simp only [List.length_drop, List.length_take]; rfl)) ?_; (with_reducible refine (wisplaw01_one.calls 34 a0 t233 _ A37.out).mono ?_); rintro e w' ⟨rfl, ⟨nd, rfl⟩⟩; refine ⟨_, rfl, ?_⟩) | ((with_reducible refine gate_callee (f := 18) rfl ?_); refine goesL_ (some 90) rfl rfl Try.func18 (by kernel_rfl) rfl #[.int .i64 21, .int .u16 a0, .int .u16 a0] rfl (by (try simp only [List.map_toArray, List.map_cons, List.map_nil]); first | done | rfl | (simp only [List.length_drop, List.length_take]; rfl)) ?_; (with_reducible refine (wisplaw01_two.calls kj16 21 a0 a0 t234 _ A38.out).mono ?_); rintro e w' ⟨rfl, ⟨nd, rfl⟩⟩; refine ⟨_, rfl, ?_⟩) | (go_at_call 19; (with_reducible refine (wisplaw01_one.calls 34 a0 t235 _ A40.out).mono ?_); rintro e w' ⟨rfl, ⟨nd, rfl⟩⟩) | (go_at_call 18; (with_reducible refine (wisplaw01_two.calls kj16 40 a0 1 t236 _ A41.out).mono ?_); rintro e w' ⟨rfl, ⟨nd, rfl⟩⟩) | (go_at_call 18; (with_reducible refine (wisplaw01_two.calls kj16 41 a0 1 t237 _ A43.out).mono ?_); rintro e w' ⟨rfl, ⟨nd, rfl⟩⟩) | (go_at_call 18; (with_reducible refine (wisplaw01_two.calls kj16 26 a0 2 t238 _ A44.out).mono ?_); rintro e w' ⟨rfl, ⟨nd, rfl⟩⟩))
                        go_meet
                        case rel => exact ⟨_, (true), (by first | rfl | (simp; done) | (simp [*]; done)), H', ⟨by have := HJ4.out; have := HJ16.out; first | omega | exact Nat.le_refl _⟩, by repeat (first | exact Drawn0.refl _ | apply Drawn0.step)⟩
                  · rw [if_neg c42] at H
                    have c42b0 : (t235 == t236) = false := beq_eq_false_iff_ne.mpr c42
                    have c42b1 : (t235 != t236) = true := bne_iff_ne.mpr c42
                    as_aux_lemma =>
                      have H' := Aside0.mk H
                      clear H
                      go_wp2_with (first | ((with_reducible refine gate_callee (f := 19) rfl ?_); refine goesL_ (some 87) rfl rfl Try.func19 (by kernel_rfl) rfl #[.int .i64 34, .int .u16 a0] rfl (by (try simp only [List.map_toArray, List.map_cons, List.map_nil]); first | done | rfl | (simp only [List.length_drop, List.length_take]; rfl)) ?_; (with_reducible refine (wisplaw01_one.calls 34 a0 t233 _ A37.out).mono ?_); rintro e w' ⟨rfl, ⟨nd, rfl⟩⟩; refine ⟨_, rfl, ?_⟩) | ((with_reducible refine gate_callee (f := 18) rfl ?_); refine goesL_ (some 90) rfl rfl Try.func18 (by kernel_rfl) rfl #[.int .i64 21, .int .u16 a0, .int .u16 a0] rfl (by (try simp only [List.map_toArray, List.map_cons, List.map_nil]); first | done | rfl | (simp only [List.length_drop, List.length_take]; rfl)) ?_; (with_reducible refine (wisplaw01_two.calls kj16 21 a0 a0 t234 _ A38.out).mono ?_); rintro e w' ⟨rfl, ⟨nd, rfl⟩⟩; refine ⟨_, rfl, ?_⟩) | (go_at_call 19; (with_reducible refine (wisplaw01_one.calls 34 a0 t235 _ A40.out).mono ?_); rintro e w' ⟨rfl, ⟨nd, rfl⟩⟩) | (go_at_call 18; (with_reducible refine (wisplaw01_two.calls kj16 40 a0 1 t236 _ A41.out).mono ?_); rintro e w' ⟨rfl, ⟨nd, rfl⟩⟩))
                      go_meet
                      case rel => exact ⟨_, (true), (by first | rfl | (simp; done) | (simp [*]; done)), H', ⟨by have := HJ4.out; have := HJ16.out; first | omega | exact Nat.le_refl _⟩, by repeat (first | exact Drawn0.refl _ | apply Drawn0.step)⟩
                · rw [if_neg c39] at H
                  have c39b0 : (t233 == t234) = false := beq_eq_false_iff_ne.mpr c39
                  have c39b1 : (t233 != t234) = true := bne_iff_ne.mpr c39
                  (first | rw [c39b0] | (simp only [i64_w, i32_w]; rw [c39b0]) | skip)
                  as_aux_lemma =>
                    have H' := Aside0.mk H
                    clear H
                    go_wp2_with (first | ((with_reducible refine gate_callee (f := 19) rfl ?_); refine goesL_ (some 87) rfl rfl Try.func19 (by kernel_rfl) rfl #[.int .i64 34, .int .u16 a0] rfl (by (try simp only [List.map_toArray, List.map_cons, List.map_nil]); first | done | rfl | (simp only [List.length_drop, List.length_take]; rfl)) ?_; (with_reducible refine (wisplaw01_one.calls 34 a0 t233 _ A37.out).mono ?_); rintro e w' ⟨rfl, ⟨nd, rfl⟩⟩; refine ⟨_, rfl, ?_⟩) | ((with_reducible refine gate_callee (f := 18) rfl ?_); refine goesL_ (some 90) rfl rfl Try.func18 (by kernel_rfl) rfl #[.int .i64 21, .int .u16 a0, .int .u16 a0] rfl (by (try simp only [List.map_toArray, List.map_cons, List.map_nil]); first | done | rfl | (simp only [List.length_drop, List.length_take]; rfl)) ?_; (with_reducible refine (wisplaw01_two.calls kj16 21 a0 a0 t234 _ A38.out).mono ?_); rintro e w' ⟨rfl, ⟨nd, rfl⟩⟩; refine ⟨_, rfl, ?_⟩))
                    go_meet
                    case rel => exact ⟨_, (true), (by first | rfl | (simp; done) | (simp [*]; done)), H', ⟨by have := HJ4.out; have := HJ16.out; first | omega | exact Nat.le_refl _⟩, by repeat (first | exact Drawn0.refl _ | apply Drawn0.step)⟩
              case rest =>
                clear HC36
                try clear c1
                try clear c2
                try clear p2
                try clear c3
                try clear c4
                try clear c5
                try clear p6
                try clear c7
                try clear c7b0
                try clear c7b1
                try clear c8
                try clear c8b0
                try clear c9
                try clear c9b0
                try clear c10
                try clear c12
                try clear c12b0
                try clear c12b1
                try clear c14
                try clear c14b0
                try clear c16
                try clear c18
                try clear c19
                try clear c20
                try clear c20b0
                try clear c20b1
                try clear c23
                try clear c23b0
                try clear c23b1
                try clear c26
                try clear c26b0
                try clear c26b1
                try clear c29
                try clear c29b0
                try clear c29b1
                try clear c32
                try clear c32b0
                try clear c32b1
                try clear c35
                try clear c39
                try clear c39b0
                try clear c39b1
                try clear c42
                try clear c42b0
                try clear c42b1
                try clear c45
                try clear c45b0
                try clear c45b1
                try clear c48
                try clear c48b0
                try clear c48b1
                try clear c51
                try clear c51b0
                try clear c51b1
                try clear p2
                try clear p6
                obtain ⟨kq, x128_35, rfl, HA, HJ35, ⟨mc35, rfl⟩⟩ := hcut
                cases kq with
                | zero => exact absurd HA.out (by simp [wisplaw01_NumBack.j2])
                | succ kj35 =>
                  have H := HA.out
                  clear HA
                  simp only [wisplaw01_NumBack.j2] at H
                  by_cases c54 : x128_35 = true
                  · subst c54
                    have H1 : (some false) = some r := by rw [if_pos rfl] at H; exact H
                    clear H
                    have H := H1
                    clear H1
                    as_aux_lemma =>
                      obtain rfl := Option.some.inj H
                      go_wp2
                      go_ret
                      exact ⟨by first | rfl | (simp; done) | (simp [*]; done), by repeat (first | exact Drawn0.refl _ | apply Drawn0.step)⟩
                  · replace c54 := Bool.eq_false_iff.mpr c54
                    subst c54
                    have H1 : ((wisplaw01_two.f kj35 36 a0 a1).bind fun t245 => ((wisplaw01_two.f kj35 37 a0 a1).bind fun t246 => ((wisplaw01_two.f kj35 21 t245 t246).bind fun t247 => ((wisplaw01_two.f kj35 21 a0 a1).bind fun t248 => (if t247 = t248 then (if a1 = 0 then ((wisplaw01_two.f kj35 24 a0 a1).bind fun t249 => (if t249 = 0 then ((wisplaw01_two.f kj35 25 a0 a1).bind fun t250 => (if t250 = 0 then ((wisplaw01_two.f kj35 26 a0 a1).bind fun t251 => (if t251 = 0 then ((wisplaw01_two.f kj35 27 a0 a1).bind fun t252 => (some (t252 == 0))) else (some false))) else (some false))) else (some false))) else ((wisplaw01_two.f kj35 24 a0 a1).bind fun t253 => ((wisplaw01_two.f kj35 23 t253 a1).bind fun t254 => ((wisplaw01_two.f kj35 25 a0 a1).bind fun t255 => ((wisplaw01_two.f kj35 21 t254 t255).bind fun t256 => (if t256 = a0 then ((wisplaw01_two.f kj35 26 a0 a1).bind fun t257 => ((wisplaw01_two.f kj35 23 t257 a1).bind fun t258 => ((wisplaw01_two.f kj35 27 a0 a1).bind fun t259 => ((wisplaw01_two.f kj35 21 t258 t259).bind fun t260 => (if t260 = a0 then ((wisplaw01_two.f kj35 27 a0 a1).bind fun t261 => (wisplaw01_NumBack.j3 kj35 a0 a1 t215 (decide (t261 ≥ a1)))) else (wisplaw01_NumBack.j3 kj35 a0 a1 t215 true)))))) else (wisplaw01_NumBack.j3 kj35 a0 a1 t215 true))))))) else (some false)))))) = some r := by rw [if_neg (show ¬ (false = true) by decide)] at H; exact H
                    clear H
                    have H := H1
                    clear H1
                    replace H := Option.bind_eq_some_iff.mp H
                    obtain ⟨t245, A550, H⟩ := H
                    replace H : ((wisplaw01_two.f kj35 37 a0 a1).bind fun t246 => ((wisplaw01_two.f kj35 21 t245 t246).bind fun t247 => ((wisplaw01_two.f kj35 21 a0 a1).bind fun t248 => (if t247 = t248 then (if a1 = 0 then ((wisplaw01_two.f kj35 24 a0 a1).bind fun t249 => (if t249 = 0 then ((wisplaw01_two.f kj35 25 a0 a1).bind fun t250 => (if t250 = 0 then ((wisplaw01_two.f kj35 26 a0 a1).bind fun t251 => (if t251 = 0 then ((wisplaw01_two.f kj35 27 a0 a1).bind fun t252 => (some (t252 == 0))) else (some false))) else (some false))) else (some false))) else ((wisplaw01_two.f kj35 24 a0 a1).bind fun t253 => ((wisplaw01_two.f kj35 23 t253 a1).bind fun t254 => ((wisplaw01_two.f kj35 25 a0 a1).bind fun t255 => ((wisplaw01_two.f kj35 21 t254 t255).bind fun t256 => (if t256 = a0 then ((wisplaw01_two.f kj35 26 a0 a1).bind fun t257 => ((wisplaw01_two.f kj35 23 t257 a1).bind fun t258 => ((wisplaw01_two.f kj35 27 a0 a1).bind fun t259 => ((wisplaw01_two.f kj35 21 t258 t259).bind fun t260 => (if t260 = a0 then ((wisplaw01_two.f kj35 27 a0 a1).bind fun t261 => (wisplaw01_NumBack.j3 kj35 a0 a1 t215 (decide (t261 ≥ a1)))) else (wisplaw01_NumBack.j3 kj35 a0 a1 t215 true)))))) else (wisplaw01_NumBack.j3 kj35 a0 a1 t215 true))))))) else (some false))))) = some r := H
                    have A55 := Aside0.mk A550
                    clear A550
                    replace H := Option.bind_eq_some_iff.mp H
                    obtain ⟨t246, A560, H⟩ := H
                    replace H : ((wisplaw01_two.f kj35 21 t245 t246).bind fun t247 => ((wisplaw01_two.f kj35 21 a0 a1).bind fun t248 => (if t247 = t248 then (if a1 = 0 then ((wisplaw01_two.f kj35 24 a0 a1).bind fun t249 => (if t249 = 0 then ((wisplaw01_two.f kj35 25 a0 a1).bind fun t250 => (if t250 = 0 then ((wisplaw01_two.f kj35 26 a0 a1).bind fun t251 => (if t251 = 0 then ((wisplaw01_two.f kj35 27 a0 a1).bind fun t252 => (some (t252 == 0))) else (some false))) else (some false))) else (some false))) else ((wisplaw01_two.f kj35 24 a0 a1).bind fun t253 => ((wisplaw01_two.f kj35 23 t253 a1).bind fun t254 => ((wisplaw01_two.f kj35 25 a0 a1).bind fun t255 => ((wisplaw01_two.f kj35 21 t254 t255).bind fun t256 => (if t256 = a0 then ((wisplaw01_two.f kj35 26 a0 a1).bind fun t257 => ((wisplaw01_two.f kj35 23 t257 a1).bind fun t258 => ((wisplaw01_two.f kj35 27 a0 a1).bind fun t259 => ((wisplaw01_two.f kj35 21 t258 t259).bind fun t260 => (if t260 = a0 then ((wisplaw01_two.f kj35 27 a0 a1).bind fun t261 => (wisplaw01_NumBack.j3 kj35 a0 a1 t215 (decide (t261 ≥ a1)))) else (wisplaw01_NumBack.j3 kj35 a0 a1 t215 true)))))) else (wisplaw01_NumBack.j3 kj35 a0 a1 t215 true))))))) else (some false)))) = some r := H
                    have A56 := Aside0.mk A560
                    clear A560
                    replace H := Option.bind_eq_some_iff.mp H
                    obtain ⟨t247, A570, H⟩ := H
                    replace H : ((wisplaw01_two.f kj35 21 a0 a1).bind fun t248 => (if t247 = t248 then (if a1 = 0 then ((wisplaw01_two.f kj35 24 a0 a1).bind fun t249 => (if t249 = 0 then ((wisplaw01_two.f kj35 25 a0 a1).bind fun t250 => (if t250 = 0 then ((wisplaw01_two.f kj35 26 a0 a1).bind fun t251 => (if t251 = 0 then ((wisplaw01_two.f kj35 27 a0 a1).bind fun t252 => (some (t252 == 0))) else (some false))) else (some false))) else (some false))) else ((wisplaw01_two.f kj35 24 a0 a1).bind fun t253 => ((wisplaw01_two.f kj35 23 t253 a1).bind fun t254 => ((wisplaw01_two.f kj35 25 a0 a1).bind fun t255 => ((wisplaw01_two.f kj35 21 t254 t255).bind fun t256 => (if t256 = a0 then ((wisplaw01_two.f kj35 26 a0 a1).bind fun t257 => ((wisplaw01_two.f kj35 23 t257 a1).bind fun t258 => ((wisplaw01_two.f kj35 27 a0 a1).bind fun t259 => ((wisplaw01_two.f kj35 21 t258 t259).bind fun t260 => (if t260 = a0 then ((wisplaw01_two.f kj35 27 a0 a1).bind fun t261 => (wisplaw01_NumBack.j3 kj35 a0 a1 t215 (decide (t261 ≥ a1)))) else (wisplaw01_NumBack.j3 kj35 a0 a1 t215 true)))))) else (wisplaw01_NumBack.j3 kj35 a0 a1 t215 true))))))) else (some false))) = some r := H
                    have A57 := Aside0.mk A570
                    clear A570
                    replace H := Option.bind_eq_some_iff.mp H
                    obtain ⟨t248, A580, H⟩ := H
                    replace H : (if t247 = t248 then (if a1 = 0 then ((wisplaw01_two.f kj35 24 a0 a1).bind fun t249 => (if t249 = 0 then ((wisplaw01_two.f kj35 25 a0 a1).bind fun t250 => (if t250 = 0 then ((wisplaw01_two.f kj35 26 a0 a1).bind fun t251 => (if t251 = 0 then ((wisplaw01_two.f kj35 27 a0 a1).bind fun t252 => (some (t252 == 0))) else (some false))) else (some false))) else (some false))) else ((wisplaw01_two.f kj35 24 a0 a1).bind fun t253 => ((wisplaw01_two.f kj35 23 t253 a1).bind fun t254 => ((wisplaw01_two.f kj35 25 a0 a1).bind fun t255 => ((wisplaw01_two.f kj35 21 t254 t255).bind fun t256 => (if t256 = a0 then ((wisplaw01_two.f kj35 26 a0 a1).bind fun t257 => ((wisplaw01_two.f kj35 23 t257 a1).bind fun t258 => ((wisplaw01_two.f kj35 27 a0 a1).bind fun t259 => ((wisplaw01_two.f kj35 21 t258 t259).bind fun t260 => (if t260 = a0 then ((wisplaw01_two.f kj35 27 a0 a1).bind fun t261 => (wisplaw01_NumBack.j3 kj35 a0 a1 t215 (decide (t261 ≥ a1)))) else (wisplaw01_NumBack.j3 kj35 a0 a1 t215 true)))))) else (wisplaw01_NumBack.j3 kj35 a0 a1 t215 true))))))) else (some false)) = some r := H
                    have A58 := Aside0.mk A580
                    clear A580
                    by_cases c59 : t247 = t248
                    · rw [if_pos c59] at H
                      have c59b0 : (t247 == t248) = true := beq_iff_eq.mpr c59
                      have c59b1 : (t247 != t248) = false := bne_eq_false_iff_eq.mpr c59
                      clear c59
                      by_cases c60 : a1 = 0
                      · rw [if_pos c60] at H
                        have c60b0 : (a1 == 0) = true := beq_iff_eq.mpr c60
                        have c60b1 : (a1 != 0) = false := bne_eq_false_iff_eq.mpr c60
                        clear c60
                        replace H := Option.bind_eq_some_iff.mp H
                        obtain ⟨t249, A610, H⟩ := H
                        replace H : (if t249 = 0 then ((wisplaw01_two.f kj35 25 a0 a1).bind fun t250 => (if t250 = 0 then ((wisplaw01_two.f kj35 26 a0 a1).bind fun t251 => (if t251 = 0 then ((wisplaw01_two.f kj35 27 a0 a1).bind fun t252 => (some (t252 == 0))) else (some false))) else (some false))) else (some false)) = some r := H
                        have A61 := Aside0.mk A610
                        clear A610
                        by_cases c62 : t249 = 0
                        · rw [if_pos c62] at H
                          have c62b0 : (t249 == 0) = true := beq_iff_eq.mpr c62
                          have c62b1 : (t249 != 0) = false := bne_eq_false_iff_eq.mpr c62
                          clear c62
                          replace H := Option.bind_eq_some_iff.mp H
                          obtain ⟨t250, A630, H⟩ := H
                          replace H : (if t250 = 0 then ((wisplaw01_two.f kj35 26 a0 a1).bind fun t251 => (if t251 = 0 then ((wisplaw01_two.f kj35 27 a0 a1).bind fun t252 => (some (t252 == 0))) else (some false))) else (some false)) = some r := H
                          have A63 := Aside0.mk A630
                          clear A630
                          by_cases c64 : t250 = 0
                          · rw [if_pos c64] at H
                            have c64b0 : (t250 == 0) = true := beq_iff_eq.mpr c64
                            have c64b1 : (t250 != 0) = false := bne_eq_false_iff_eq.mpr c64
                            clear c64
                            replace H := Option.bind_eq_some_iff.mp H
                            obtain ⟨t251, A650, H⟩ := H
                            replace H : (if t251 = 0 then ((wisplaw01_two.f kj35 27 a0 a1).bind fun t252 => (some (t252 == 0))) else (some false)) = some r := H
                            have A65 := Aside0.mk A650
                            clear A650
                            by_cases c66 : t251 = 0
                            · rw [if_pos c66] at H
                              have c66b0 : (t251 == 0) = true := beq_iff_eq.mpr c66
                              have c66b1 : (t251 != 0) = false := bne_eq_false_iff_eq.mpr c66
                              clear c66
                              replace H := Option.bind_eq_some_iff.mp H
                              obtain ⟨t252, A670, H⟩ := H
                              replace H : (some (t252 == 0)) = some r := H
                              have A67 := Aside0.mk A670
                              clear A670
                              as_aux_lemma =>
                                obtain rfl := Option.some.inj H
                                go_wp2_with (first | ((with_reducible refine gate_callee (f := 18) rfl ?_); refine goesL_ (some 131) rfl rfl Try.func18 (by kernel_rfl) rfl #[.int .i64 36, .int .u16 a0, .int .u16 a1] rfl (by (try simp only [List.map_toArray, List.map_cons, List.map_nil]); first | done | rfl | (simp only [List.length_drop, List.length_take]; rfl)) ?_; (with_reducible refine (wisplaw01_two.calls kj35 36 a0 a1 t245 _ A55.out).mono ?_); rintro e w' ⟨rfl, ⟨nd, rfl⟩⟩; refine ⟨_, rfl, ?_⟩) | ((with_reducible refine gate_callee (f := 18) rfl ?_); refine goesL_ (some 134) rfl rfl Try.func18 (by kernel_rfl) rfl #[.int .i64 37, .int .u16 a0, .int .u16 a1] rfl (by (try simp only [List.map_toArray, List.map_cons, List.map_nil]); first | done | rfl | (simp only [List.length_drop, List.length_take]; rfl)) ?_; (with_reducible refine (wisplaw01_two.calls kj35 37 a0 a1 t246 _ A56.out).mono ?_); rintro e w' ⟨rfl, ⟨nd, rfl⟩⟩; refine ⟨_, rfl, ?_⟩) | ((with_reducible refine gate_callee (f := 18) rfl ?_); refine goesL_ (some 135) rfl rfl Try.func18 (by kernel_rfl) rfl #[.int .i64 21, .int .u16 t245, .int .u16 t246] rfl (by (try simp only [List.map_toArray, List.map_cons, List.map_nil]); first | done | rfl | (simp only [List.length_drop, List.length_take]; rfl)) ?_; (with_reducible refine (wisplaw01_two.calls kj35 21 t245 t246 t247 _ A57.out).mono ?_); rintro e w' ⟨rfl, ⟨nd, rfl⟩⟩; refine ⟨_, rfl, ?_⟩) | ((with_reducible refine gate_callee (f := 18) rfl ?_); refine goesL_ (some 138) rfl rfl Try.func18 (by kernel_rfl) rfl #[.int .i64 21, .int .u16 a0, .int .u16 a1] rfl (by (try simp only [List.map_toArray, List.map_cons, List.map_nil]); first | done | rfl | (simp only [List.length_drop, List.length_take]; rfl)) ?_; (with_reducible refine (wisplaw01_two.calls kj35 21 a0 a1 t248 _ A58.out).mono ?_); rintro e w' ⟨rfl, ⟨nd, rfl⟩⟩; refine ⟨_, rfl, ?_⟩) | ((with_reducible refine gate_callee (f := 18) rfl ?_); refine goesL_ (some 144) rfl rfl Try.func18 (by kernel_rfl) rfl #[.int .i64 24, .int .u16 a0, .int .u16 a1] rfl (by (try simp only [List.map_toArray, List.map_cons, List.map_nil]); first | done | rfl | (simp only [List.length_drop, List.length_take]; rfl)) ?_; (with_reducible refine (wisplaw01_two.calls kj35 24 a0 a1 t249 _ A61.out).mono ?_); rintro e w' ⟨rfl, ⟨nd, rfl⟩⟩; refine ⟨_, rfl, ?_⟩) | (go_at_call 18; (with_reducible refine (wisplaw01_two.calls kj35 25 a0 a1 t250 _ A63.out).mono ?_); rintro e w' ⟨rfl, ⟨nd, rfl⟩⟩) | (go_at_call 18; (with_reducible refine (wisplaw01_two.calls kj35 26 a0 a1 t251 _ A65.out).mono ?_); rintro e w' ⟨rfl, ⟨nd, rfl⟩⟩) | (go_at_call 18; (with_reducible refine (wisplaw01_two.calls kj35 27 a0 a1 t252 _ A67.out).mono ?_); rintro e w' ⟨rfl, ⟨nd, rfl⟩⟩))
                                go_ret
                                exact ⟨by first | rfl | (simp; done) | (simp [*]; done), by repeat (first | exact Drawn0.refl _ | apply Drawn0.step)⟩
                            · rw [if_neg c66] at H
                              have c66b0 : (t251 == 0) = false := beq_eq_false_iff_ne.mpr c66
                              have c66b1 : (t251 != 0) = true := bne_iff_ne.mpr c66
                              as_aux_lemma =>
                                obtain rfl := Option.some.inj H
                                go_wp2_with (first | ((with_reducible refine gate_callee (f := 18) rfl ?_); refine goesL_ (some 131) rfl rfl Try.func18 (by kernel_rfl) rfl #[.int .i64 36, .int .u16 a0, .int .u16 a1] rfl (by (try simp only [List.map_toArray, List.map_cons, List.map_nil]); first | done | rfl | (simp only [List.length_drop, List.length_take]; rfl)) ?_; (with_reducible refine (wisplaw01_two.calls kj35 36 a0 a1 t245 _ A55.out).mono ?_); rintro e w' ⟨rfl, ⟨nd, rfl⟩⟩; refine ⟨_, rfl, ?_⟩) | ((with_reducible refine gate_callee (f := 18) rfl ?_); refine goesL_ (some 134) rfl rfl Try.func18 (by kernel_rfl) rfl #[.int .i64 37, .int .u16 a0, .int .u16 a1] rfl (by (try simp only [List.map_toArray, List.map_cons, List.map_nil]); first | done | rfl | (simp only [List.length_drop, List.length_take]; rfl)) ?_; (with_reducible refine (wisplaw01_two.calls kj35 37 a0 a1 t246 _ A56.out).mono ?_); rintro e w' ⟨rfl, ⟨nd, rfl⟩⟩; refine ⟨_, rfl, ?_⟩) | ((with_reducible refine gate_callee (f := 18) rfl ?_); refine goesL_ (some 135) rfl rfl Try.func18 (by kernel_rfl) rfl #[.int .i64 21, .int .u16 t245, .int .u16 t246] rfl (by (try simp only [List.map_toArray, List.map_cons, List.map_nil]); first | done | rfl | (simp only [List.length_drop, List.length_take]; rfl)) ?_; (with_reducible refine (wisplaw01_two.calls kj35 21 t245 t246 t247 _ A57.out).mono ?_); rintro e w' ⟨rfl, ⟨nd, rfl⟩⟩; refine ⟨_, rfl, ?_⟩) | ((with_reducible refine gate_callee (f := 18) rfl ?_); refine goesL_ (some 138) rfl rfl Try.func18 (by kernel_rfl) rfl #[.int .i64 21, .int .u16 a0, .int .u16 a1] rfl (by (try simp only [List.map_toArray, List.map_cons, List.map_nil]); first | done | rfl | (simp only [List.length_drop, List.length_take]; rfl)) ?_; (with_reducible refine (wisplaw01_two.calls kj35 21 a0 a1 t248 _ A58.out).mono ?_); rintro e w' ⟨rfl, ⟨nd, rfl⟩⟩; refine ⟨_, rfl, ?_⟩) | ((with_reducible refine gate_callee (f := 18) rfl ?_); refine goesL_ (some 144) rfl rfl Try.func18 (by kernel_rfl) rfl #[.int .i64 24, .int .u16 a0, .int .u16 a1] rfl (by (try simp only [List.map_toArray, List.map_cons, List.map_nil]); first | done | rfl | (simp only [List.length_drop, List.length_take]; rfl)) ?_; (with_reducible refine (wisplaw01_two.calls kj35 24 a0 a1 t249 _ A61.out).mono ?_); rintro e w' ⟨rfl, ⟨nd, rfl⟩⟩; refine ⟨_, rfl, ?_⟩) | (go_at_call 18; (with_reducible refine (wisplaw01_two.calls kj35 25 a0 a1 t250 _ A63.out).mono ?_); rintro e w' ⟨rfl, ⟨nd, rfl⟩⟩) | (go_at_call 18; (with_reducible refine (wisplaw01_two.calls kj35 26 a0 a1 t251 _ A65.out).mono ?_); rintro e w' ⟨rfl, ⟨nd, rfl⟩⟩))
                                go_ret
                                exact ⟨by first | rfl | (simp; done) | (simp [*]; done), by repeat (first | exact Drawn0.refl _ | apply Drawn0.step)⟩
                          · rw [if_neg c64] at H
                            have c64b0 : (t250 == 0) = false := beq_eq_false_iff_ne.mpr c64
                            have c64b1 : (t250 != 0) = true := bne_iff_ne.mpr c64
                            as_aux_lemma =>
                              obtain rfl := Option.some.inj H
                              go_wp2_with (first | ((with_reducible refine gate_callee (f := 18) rfl ?_); refine goesL_ (some 131) rfl rfl Try.func18 (by kernel_rfl) rfl #[.int .i64 36, .int .u16 a0, .int .u16 a1] rfl (by (try simp only [List.map_toArray, List.map_cons, List.map_nil]); first | done | rfl | (simp only [List.length_drop, List.length_take]; rfl)) ?_; (with_reducible refine (wisplaw01_two.calls kj35 36 a0 a1 t245 _ A55.out).mono ?_); rintro e w' ⟨rfl, ⟨nd, rfl⟩⟩; refine ⟨_, rfl, ?_⟩) | ((with_reducible refine gate_callee (f := 18) rfl ?_); refine goesL_ (some 134) rfl rfl Try.func18 (by kernel_rfl) rfl #[.int .i64 37, .int .u16 a0, .int .u16 a1] rfl (by (try simp only [List.map_toArray, List.map_cons, List.map_nil]); first | done | rfl | (simp only [List.length_drop, List.length_take]; rfl)) ?_; (with_reducible refine (wisplaw01_two.calls kj35 37 a0 a1 t246 _ A56.out).mono ?_); rintro e w' ⟨rfl, ⟨nd, rfl⟩⟩; refine ⟨_, rfl, ?_⟩) | ((with_reducible refine gate_callee (f := 18) rfl ?_); refine goesL_ (some 135) rfl rfl Try.func18 (by kernel_rfl) rfl #[.int .i64 21, .int .u16 t245, .int .u16 t246] rfl (by (try simp only [List.map_toArray, List.map_cons, List.map_nil]); first | done | rfl | (simp only [List.length_drop, List.length_take]; rfl)) ?_; (with_reducible refine (wisplaw01_two.calls kj35 21 t245 t246 t247 _ A57.out).mono ?_); rintro e w' ⟨rfl, ⟨nd, rfl⟩⟩; refine ⟨_, rfl, ?_⟩) | ((with_reducible refine gate_callee (f := 18) rfl ?_); refine goesL_ (some 138) rfl rfl Try.func18 (by kernel_rfl) rfl #[.int .i64 21, .int .u16 a0, .int .u16 a1] rfl (by (try simp only [List.map_toArray, List.map_cons, List.map_nil]); first | done | rfl | (simp only [List.length_drop, List.length_take]; rfl)) ?_; (with_reducible refine (wisplaw01_two.calls kj35 21 a0 a1 t248 _ A58.out).mono ?_); rintro e w' ⟨rfl, ⟨nd, rfl⟩⟩; refine ⟨_, rfl, ?_⟩) | ((with_reducible refine gate_callee (f := 18) rfl ?_); refine goesL_ (some 144) rfl rfl Try.func18 (by kernel_rfl) rfl #[.int .i64 24, .int .u16 a0, .int .u16 a1] rfl (by (try simp only [List.map_toArray, List.map_cons, List.map_nil]); first | done | rfl | (simp only [List.length_drop, List.length_take]; rfl)) ?_; (with_reducible refine (wisplaw01_two.calls kj35 24 a0 a1 t249 _ A61.out).mono ?_); rintro e w' ⟨rfl, ⟨nd, rfl⟩⟩; refine ⟨_, rfl, ?_⟩) | (go_at_call 18; (with_reducible refine (wisplaw01_two.calls kj35 25 a0 a1 t250 _ A63.out).mono ?_); rintro e w' ⟨rfl, ⟨nd, rfl⟩⟩))
                              go_ret
                              exact ⟨by first | rfl | (simp; done) | (simp [*]; done), by repeat (first | exact Drawn0.refl _ | apply Drawn0.step)⟩
                        · rw [if_neg c62] at H
                          have c62b0 : (t249 == 0) = false := beq_eq_false_iff_ne.mpr c62
                          have c62b1 : (t249 != 0) = true := bne_iff_ne.mpr c62
                          as_aux_lemma =>
                            obtain rfl := Option.some.inj H
                            go_wp2_with (first | ((with_reducible refine gate_callee (f := 18) rfl ?_); refine goesL_ (some 131) rfl rfl Try.func18 (by kernel_rfl) rfl #[.int .i64 36, .int .u16 a0, .int .u16 a1] rfl (by (try simp only [List.map_toArray, List.map_cons, List.map_nil]); first | done | rfl | (simp only [List.length_drop, List.length_take]; rfl)) ?_; (with_reducible refine (wisplaw01_two.calls kj35 36 a0 a1 t245 _ A55.out).mono ?_); rintro e w' ⟨rfl, ⟨nd, rfl⟩⟩; refine ⟨_, rfl, ?_⟩) | ((with_reducible refine gate_callee (f := 18) rfl ?_); refine goesL_ (some 134) rfl rfl Try.func18 (by kernel_rfl) rfl #[.int .i64 37, .int .u16 a0, .int .u16 a1] rfl (by (try simp only [List.map_toArray, List.map_cons, List.map_nil]); first | done | rfl | (simp only [List.length_drop, List.length_take]; rfl)) ?_; (with_reducible refine (wisplaw01_two.calls kj35 37 a0 a1 t246 _ A56.out).mono ?_); rintro e w' ⟨rfl, ⟨nd, rfl⟩⟩; refine ⟨_, rfl, ?_⟩) | ((with_reducible refine gate_callee (f := 18) rfl ?_); refine goesL_ (some 135) rfl rfl Try.func18 (by kernel_rfl) rfl #[.int .i64 21, .int .u16 t245, .int .u16 t246] rfl (by (try simp only [List.map_toArray, List.map_cons, List.map_nil]); first | done | rfl | (simp only [List.length_drop, List.length_take]; rfl)) ?_; (with_reducible refine (wisplaw01_two.calls kj35 21 t245 t246 t247 _ A57.out).mono ?_); rintro e w' ⟨rfl, ⟨nd, rfl⟩⟩; refine ⟨_, rfl, ?_⟩) | ((with_reducible refine gate_callee (f := 18) rfl ?_); refine goesL_ (some 138) rfl rfl Try.func18 (by kernel_rfl) rfl #[.int .i64 21, .int .u16 a0, .int .u16 a1] rfl (by (try simp only [List.map_toArray, List.map_cons, List.map_nil]); first | done | rfl | (simp only [List.length_drop, List.length_take]; rfl)) ?_; (with_reducible refine (wisplaw01_two.calls kj35 21 a0 a1 t248 _ A58.out).mono ?_); rintro e w' ⟨rfl, ⟨nd, rfl⟩⟩; refine ⟨_, rfl, ?_⟩) | ((with_reducible refine gate_callee (f := 18) rfl ?_); refine goesL_ (some 144) rfl rfl Try.func18 (by kernel_rfl) rfl #[.int .i64 24, .int .u16 a0, .int .u16 a1] rfl (by (try simp only [List.map_toArray, List.map_cons, List.map_nil]); first | done | rfl | (simp only [List.length_drop, List.length_take]; rfl)) ?_; (with_reducible refine (wisplaw01_two.calls kj35 24 a0 a1 t249 _ A61.out).mono ?_); rintro e w' ⟨rfl, ⟨nd, rfl⟩⟩; refine ⟨_, rfl, ?_⟩))
                            go_ret
                            exact ⟨by first | rfl | (simp; done) | (simp [*]; done), by repeat (first | exact Drawn0.refl _ | apply Drawn0.step)⟩
                      · rw [if_neg c60] at H
                        have c60b0 : (a1 == 0) = false := beq_eq_false_iff_ne.mpr c60
                        have c60b1 : (a1 != 0) = true := bne_iff_ne.mpr c60
                        have HC68 := Aside0.mk H
                        clear H
                        go_upto_region 12 with (first | ((with_reducible refine gate_callee (f := 18) rfl ?_); refine goesL_ (some 131) rfl rfl Try.func18 (by kernel_rfl) rfl #[.int .i64 36, .int .u16 a0, .int .u16 a1] rfl (by (try simp only [List.map_toArray, List.map_cons, List.map_nil]); first | done | rfl | (simp only [List.length_drop, List.length_take]; rfl)) ?_; (with_reducible refine (wisplaw01_two.calls kj35 36 a0 a1 t245 _ A55.out).mono ?_); rintro e w' ⟨rfl, ⟨nd, rfl⟩⟩; refine ⟨_, rfl, ?_⟩) | ((with_reducible refine gate_callee (f := 18) rfl ?_); refine goesL_ (some 134) rfl rfl Try.func18 (by kernel_rfl) rfl #[.int .i64 37, .int .u16 a0, .int .u16 a1] rfl (by (try simp only [List.map_toArray, List.map_cons, List.map_nil]); first | done | rfl | (simp only [List.length_drop, List.length_take]; rfl)) ?_; (with_reducible refine (wisplaw01_two.calls kj35 37 a0 a1 t246 _ A56.out).mono ?_); rintro e w' ⟨rfl, ⟨nd, rfl⟩⟩; refine ⟨_, rfl, ?_⟩) | ((with_reducible refine gate_callee (f := 18) rfl ?_); refine goesL_ (some 135) rfl rfl Try.func18 (by kernel_rfl) rfl #[.int .i64 21, .int .u16 t245, .int .u16 t246] rfl (by (try simp only [List.map_toArray, List.map_cons, List.map_nil]); first | done | rfl | (simp only [List.length_drop, List.length_take]; rfl)) ?_; (with_reducible refine (wisplaw01_two.calls kj35 21 t245 t246 t247 _ A57.out).mono ?_); rintro e w' ⟨rfl, ⟨nd, rfl⟩⟩; refine ⟨_, rfl, ?_⟩) | ((with_reducible refine gate_callee (f := 18) rfl ?_); refine goesL_ (some 138) rfl rfl Try.func18 (by kernel_rfl) rfl #[.int .i64 21, .int .u16 a0, .int .u16 a1] rfl (by (try simp only [List.map_toArray, List.map_cons, List.map_nil]); first | done | rfl | (simp only [List.length_drop, List.length_take]; rfl)) ?_; (with_reducible refine (wisplaw01_two.calls kj35 21 a0 a1 t248 _ A58.out).mono ?_); rintro e w' ⟨rfl, ⟨nd, rfl⟩⟩; refine ⟨_, rfl, ?_⟩))
                        (try simp only [Act.put, List.setIfInBounds_toArray, List.set_cons_zero, List.set_cons_succ])
                        go_cut [194] (fun v194 wc => ∃ (kq : Nat) (x194_67 : Bool), v194 = .bool x194_67 ∧ Aside0 (wisplaw01_NumBack.j3 kq a0 a1 t215 x194_67 = some r) ∧ Aside0 (kq ≤ kj35) ∧ Drawn0 w wc)
                        case first =>
                          have H := HC68.out
                          clear HC68
                          replace H := Option.bind_eq_some_iff.mp H
                          obtain ⟨t253, A690, H⟩ := H
                          replace H : ((wisplaw01_two.f kj35 23 t253 a1).bind fun t254 => ((wisplaw01_two.f kj35 25 a0 a1).bind fun t255 => ((wisplaw01_two.f kj35 21 t254 t255).bind fun t256 => (if t256 = a0 then ((wisplaw01_two.f kj35 26 a0 a1).bind fun t257 => ((wisplaw01_two.f kj35 23 t257 a1).bind fun t258 => ((wisplaw01_two.f kj35 27 a0 a1).bind fun t259 => ((wisplaw01_two.f kj35 21 t258 t259).bind fun t260 => (if t260 = a0 then ((wisplaw01_two.f kj35 27 a0 a1).bind fun t261 => (wisplaw01_NumBack.j3 kj35 a0 a1 t215 (decide (t261 ≥ a1)))) else (wisplaw01_NumBack.j3 kj35 a0 a1 t215 true)))))) else (wisplaw01_NumBack.j3 kj35 a0 a1 t215 true))))) = some r := H
                          have A69 := Aside0.mk A690
                          clear A690
                          replace H := Option.bind_eq_some_iff.mp H
                          obtain ⟨t254, A700, H⟩ := H
                          replace H : ((wisplaw01_two.f kj35 25 a0 a1).bind fun t255 => ((wisplaw01_two.f kj35 21 t254 t255).bind fun t256 => (if t256 = a0 then ((wisplaw01_two.f kj35 26 a0 a1).bind fun t257 => ((wisplaw01_two.f kj35 23 t257 a1).bind fun t258 => ((wisplaw01_two.f kj35 27 a0 a1).bind fun t259 => ((wisplaw01_two.f kj35 21 t258 t259).bind fun t260 => (if t260 = a0 then ((wisplaw01_two.f kj35 27 a0 a1).bind fun t261 => (wisplaw01_NumBack.j3 kj35 a0 a1 t215 (decide (t261 ≥ a1)))) else (wisplaw01_NumBack.j3 kj35 a0 a1 t215 true)))))) else (wisplaw01_NumBack.j3 kj35 a0 a1 t215 true)))) = some r := H
                          have A70 := Aside0.mk A700
                          clear A700
                          replace H := Option.bind_eq_some_iff.mp H
                          obtain ⟨t255, A710, H⟩ := H
                          replace H : ((wisplaw01_two.f kj35 21 t254 t255).bind fun t256 => (if t256 = a0 then ((wisplaw01_two.f kj35 26 a0 a1).bind fun t257 => ((wisplaw01_two.f kj35 23 t257 a1).bind fun t258 => ((wisplaw01_two.f kj35 27 a0 a1).bind fun t259 => ((wisplaw01_two.f kj35 21 t258 t259).bind fun t260 => (if t260 = a0 then ((wisplaw01_two.f kj35 27 a0 a1).bind fun t261 => (wisplaw01_NumBack.j3 kj35 a0 a1 t215 (decide (t261 ≥ a1)))) else (wisplaw01_NumBack.j3 kj35 a0 a1 t215 true)))))) else (wisplaw01_NumBack.j3 kj35 a0 a1 t215 true))) = some r := H
                          have A71 := Aside0.mk A710
                          clear A710
                          replace H := Option.bind_eq_some_iff.mp H
                          obtain ⟨t256, A720, H⟩ := H
                          replace H : (if t256 = a0 then ((wisplaw01_two.f kj35 26 a0 a1).bind fun t257 => ((wisplaw01_two.f kj35 23 t257 a1).bind fun t258 => ((wisplaw01_two.f kj35 27 a0 a1).bind fun t259 => ((wisplaw01_two.f kj35 21 t258 t259).bind fun t260 => (if t260 = a0 then ((wisplaw01_two.f kj35 27 a0 a1).bind fun t261 => (wisplaw01_NumBack.j3 kj35 a0 a1 t215 (decide (t261 ≥ a1)))) else (wisplaw01_NumBack.j3 kj35 a0 a1 t215 true)))))) else (wisplaw01_NumBack.j3 kj35 a0 a1 t215 true)) = some r := H
                          have A72 := Aside0.mk A720
                          clear A720
                          by_cases c73 : t256 = a0
                          · rw [if_pos c73] at H
                            have c73b0 : (t256 == a0) = true := beq_iff_eq.mpr c73
                            have c73b1 : (t256 != a0) = false := bne_eq_false_iff_eq.mpr c73
                            clear c73
                            (first | rw [c73b0] | (simp only [i64_w, i32_w]; rw [c73b0]) | skip)
                            replace H := Option.bind_eq_some_iff.mp H
                            obtain ⟨t257, A740, H⟩ := H
                            replace H : ((wisplaw01_two.f kj35 23 t257 a1).bind fun t258 => ((wisplaw01_two.f kj35 27 a0 a1).bind fun t259 => ((wisplaw01_two.f kj35 21 t258 t259).bind fun t260 => (if t260 = a0 then ((wisplaw01_two.f kj35 27 a0 a1).bind fun t261 => (wisplaw01_NumBack.j3 kj35 a0 a1 t215 (decide (t261 ≥ a1)))) else (wisplaw01_NumBack.j3 kj35 a0 a1 t215 true))))) = some r := H
                            have A74 := Aside0.mk A740
                            clear A740
                            replace H := Option.bind_eq_some_iff.mp H
                            obtain ⟨t258, A750, H⟩ := H
                            replace H : ((wisplaw01_two.f kj35 27 a0 a1).bind fun t259 => ((wisplaw01_two.f kj35 21 t258 t259).bind fun t260 => (if t260 = a0 then ((wisplaw01_two.f kj35 27 a0 a1).bind fun t261 => (wisplaw01_NumBack.j3 kj35 a0 a1 t215 (decide (t261 ≥ a1)))) else (wisplaw01_NumBack.j3 kj35 a0 a1 t215 true)))) = some r := H
                            have A75 := Aside0.mk A750
                            clear A750
                            replace H := Option.bind_eq_some_iff.mp H
                            obtain ⟨t259, A760, H⟩ := H
                            replace H : ((wisplaw01_two.f kj35 21 t258 t259).bind fun t260 => (if t260 = a0 then ((wisplaw01_two.f kj35 27 a0 a1).bind fun t261 => (wisplaw01_NumBack.j3 kj35 a0 a1 t215 (decide (t261 ≥ a1)))) else (wisplaw01_NumBack.j3 kj35 a0 a1 t215 true))) = some r := H
                            have A76 := Aside0.mk A760
                            clear A760
                            replace H := Option.bind_eq_some_iff.mp H
                            obtain ⟨t260, A770, H⟩ := H
                            replace H : (if t260 = a0 then ((wisplaw01_two.f kj35 27 a0 a1).bind fun t261 => (wisplaw01_NumBack.j3 kj35 a0 a1 t215 (decide (t261 ≥ a1)))) else (wisplaw01_NumBack.j3 kj35 a0 a1 t215 true)) = some r := H
                            have A77 := Aside0.mk A770
                            clear A770
                            by_cases c78 : t260 = a0
                            · rw [if_pos c78] at H
                              have c78b0 : (t260 == a0) = true := beq_iff_eq.mpr c78
                              have c78b1 : (t260 != a0) = false := bne_eq_false_iff_eq.mpr c78
                              clear c78
                              replace H := Option.bind_eq_some_iff.mp H
                              obtain ⟨t261, A790, H⟩ := H
                              replace H : (wisplaw01_NumBack.j3 kj35 a0 a1 t215 (decide (t261 ≥ a1))) = some r := H
                              have A79 := Aside0.mk A790
                              clear A790
                              as_aux_lemma =>
                                have H' := Aside0.mk H
                                clear H
                                go_wp2_with (first | ((with_reducible refine gate_callee (f := 18) rfl ?_); refine goesL_ (some 166) rfl rfl Try.func18 (by kernel_rfl) rfl #[.int .i64 24, .int .u16 a0, .int .u16 a1] rfl (by (try simp only [List.map_toArray, List.map_cons, List.map_nil]); first | done | rfl | (simp only [List.length_drop, List.length_take]; rfl)) ?_; (with_reducible refine (wisplaw01_two.calls kj35 24 a0 a1 t253 _ A69.out).mono ?_); rintro e w' ⟨rfl, ⟨nd, rfl⟩⟩; refine ⟨_, rfl, ?_⟩) | ((with_reducible refine gate_callee (f := 18) rfl ?_); refine goesL_ (some 168) rfl rfl Try.func18 (by kernel_rfl) rfl #[.int .i64 23, .int .u16 t253, .int .u16 a1] rfl (by (try simp only [List.map_toArray, List.map_cons, List.map_nil]); first | done | rfl | (simp only [List.length_drop, List.length_take]; rfl)) ?_; (with_reducible refine (wisplaw01_two.calls kj35 23 t253 a1 t254 _ A70.out).mono ?_); rintro e w' ⟨rfl, ⟨nd, rfl⟩⟩; refine ⟨_, rfl, ?_⟩) | ((with_reducible refine gate_callee (f := 18) rfl ?_); refine goesL_ (some 171) rfl rfl Try.func18 (by kernel_rfl) rfl #[.int .i64 25, .int .u16 a0, .int .u16 a1] rfl (by (try simp only [List.map_toArray, List.map_cons, List.map_nil]); first | done | rfl | (simp only [List.length_drop, List.length_take]; rfl)) ?_; (with_reducible refine (wisplaw01_two.calls kj35 25 a0 a1 t255 _ A71.out).mono ?_); rintro e w' ⟨rfl, ⟨nd, rfl⟩⟩; refine ⟨_, rfl, ?_⟩) | ((with_reducible refine gate_callee (f := 18) rfl ?_); refine goesL_ (some 172) rfl rfl Try.func18 (by kernel_rfl) rfl #[.int .i64 21, .int .u16 t254, .int .u16 t255] rfl (by (try simp only [List.map_toArray, List.map_cons, List.map_nil]); first | done | rfl | (simp only [List.length_drop, List.length_take]; rfl)) ?_; (with_reducible refine (wisplaw01_two.calls kj35 21 t254 t255 t256 _ A72.out).mono ?_); rintro e w' ⟨rfl, ⟨nd, rfl⟩⟩; refine ⟨_, rfl, ?_⟩) | (go_at_call 18; (with_reducible refine (wisplaw01_two.calls kj35 26 a0 a1 t257 _ A74.out).mono ?_); rintro e w' ⟨rfl, ⟨nd, rfl⟩⟩) | (go_at_call 18; (with_reducible refine (wisplaw01_two.calls kj35 23 t257 a1 t258 _ A75.out).mono ?_); rintro e w' ⟨rfl, ⟨nd, rfl⟩⟩) | (go_at_call 18; (with_reducible refine (wisplaw01_two.calls kj35 27 a0 a1 t259 _ A76.out).mono ?_); rintro e w' ⟨rfl, ⟨nd, rfl⟩⟩) | (go_at_call 18; (with_reducible refine (wisplaw01_two.calls kj35 21 t258 t259 t260 _ A77.out).mono ?_); rintro e w' ⟨rfl, ⟨nd, rfl⟩⟩) | (go_at_call 18; (with_reducible refine (wisplaw01_two.calls kj35 27 a0 a1 t261 _ A79.out).mono ?_); rintro e w' ⟨rfl, ⟨nd, rfl⟩⟩))
                                go_meet
                                case rel => exact ⟨_, (decide (t261 ≥ a1)), (by first | rfl | (rw [Option.some.inj (A79.out.symm.trans A76.out)]; first | done | rfl) | (simp; done) | (simp [*]; done)), H', ⟨by have := HJ4.out; have := HJ16.out; have := HJ35.out; first | omega | exact Nat.le_refl _⟩, by repeat (first | exact Drawn0.refl _ | apply Drawn0.step)⟩
                            · rw [if_neg c78] at H
                              have c78b0 : (t260 == a0) = false := beq_eq_false_iff_ne.mpr c78
                              have c78b1 : (t260 != a0) = true := bne_iff_ne.mpr c78
                              as_aux_lemma =>
                                have H' := Aside0.mk H
                                clear H
                                go_wp2_with (first | ((with_reducible refine gate_callee (f := 18) rfl ?_); refine goesL_ (some 166) rfl rfl Try.func18 (by kernel_rfl) rfl #[.int .i64 24, .int .u16 a0, .int .u16 a1] rfl (by (try simp only [List.map_toArray, List.map_cons, List.map_nil]); first | done | rfl | (simp only [List.length_drop, List.length_take]; rfl)) ?_; (with_reducible refine (wisplaw01_two.calls kj35 24 a0 a1 t253 _ A69.out).mono ?_); rintro e w' ⟨rfl, ⟨nd, rfl⟩⟩; refine ⟨_, rfl, ?_⟩) | ((with_reducible refine gate_callee (f := 18) rfl ?_); refine goesL_ (some 168) rfl rfl Try.func18 (by kernel_rfl) rfl #[.int .i64 23, .int .u16 t253, .int .u16 a1] rfl (by (try simp only [List.map_toArray, List.map_cons, List.map_nil]); first | done | rfl | (simp only [List.length_drop, List.length_take]; rfl)) ?_; (with_reducible refine (wisplaw01_two.calls kj35 23 t253 a1 t254 _ A70.out).mono ?_); rintro e w' ⟨rfl, ⟨nd, rfl⟩⟩; refine ⟨_, rfl, ?_⟩) | ((with_reducible refine gate_callee (f := 18) rfl ?_); refine goesL_ (some 171) rfl rfl Try.func18 (by kernel_rfl) rfl #[.int .i64 25, .int .u16 a0, .int .u16 a1] rfl (by (try simp only [List.map_toArray, List.map_cons, List.map_nil]); first | done | rfl | (simp only [List.length_drop, List.length_take]; rfl)) ?_; (with_reducible refine (wisplaw01_two.calls kj35 25 a0 a1 t255 _ A71.out).mono ?_); rintro e w' ⟨rfl, ⟨nd, rfl⟩⟩; refine ⟨_, rfl, ?_⟩) | ((with_reducible refine gate_callee (f := 18) rfl ?_); refine goesL_ (some 172) rfl rfl Try.func18 (by kernel_rfl) rfl #[.int .i64 21, .int .u16 t254, .int .u16 t255] rfl (by (try simp only [List.map_toArray, List.map_cons, List.map_nil]); first | done | rfl | (simp only [List.length_drop, List.length_take]; rfl)) ?_; (with_reducible refine (wisplaw01_two.calls kj35 21 t254 t255 t256 _ A72.out).mono ?_); rintro e w' ⟨rfl, ⟨nd, rfl⟩⟩; refine ⟨_, rfl, ?_⟩) | (go_at_call 18; (with_reducible refine (wisplaw01_two.calls kj35 26 a0 a1 t257 _ A74.out).mono ?_); rintro e w' ⟨rfl, ⟨nd, rfl⟩⟩) | (go_at_call 18; (with_reducible refine (wisplaw01_two.calls kj35 23 t257 a1 t258 _ A75.out).mono ?_); rintro e w' ⟨rfl, ⟨nd, rfl⟩⟩) | (go_at_call 18; (with_reducible refine (wisplaw01_two.calls kj35 27 a0 a1 t259 _ A76.out).mono ?_); rintro e w' ⟨rfl, ⟨nd, rfl⟩⟩) | (go_at_call 18; (with_reducible refine (wisplaw01_two.calls kj35 21 t258 t259 t260 _ A77.out).mono ?_); rintro e w' ⟨rfl, ⟨nd, rfl⟩⟩))
                                go_meet
                                case rel => exact ⟨_, (true), (by first | rfl | (simp; done) | (simp [*]; done)), H', ⟨by have := HJ4.out; have := HJ16.out; have := HJ35.out; first | omega | exact Nat.le_refl _⟩, by repeat (first | exact Drawn0.refl _ | apply Drawn0.step)⟩
                          · rw [if_neg c73] at H
                            have c73b0 : (t256 == a0) = false := beq_eq_false_iff_ne.mpr c73
                            have c73b1 : (t256 != a0) = true := bne_iff_ne.mpr c73
                            (first | rw [c73b0] | (simp only [i64_w, i32_w]; rw [c73b0]) | skip)
                            as_aux_lemma =>
                              have H' := Aside0.mk H
                              clear H
                              go_wp2_with (first | ((with_reducible refine gate_callee (f := 18) rfl ?_); refine goesL_ (some 166) rfl rfl Try.func18 (by kernel_rfl) rfl #[.int .i64 24, .int .u16 a0, .int .u16 a1] rfl (by (try simp only [List.map_toArray, List.map_cons, List.map_nil]); first | done | rfl | (simp only [List.length_drop, List.length_take]; rfl)) ?_; (with_reducible refine (wisplaw01_two.calls kj35 24 a0 a1 t253 _ A69.out).mono ?_); rintro e w' ⟨rfl, ⟨nd, rfl⟩⟩; refine ⟨_, rfl, ?_⟩) | ((with_reducible refine gate_callee (f := 18) rfl ?_); refine goesL_ (some 168) rfl rfl Try.func18 (by kernel_rfl) rfl #[.int .i64 23, .int .u16 t253, .int .u16 a1] rfl (by (try simp only [List.map_toArray, List.map_cons, List.map_nil]); first | done | rfl | (simp only [List.length_drop, List.length_take]; rfl)) ?_; (with_reducible refine (wisplaw01_two.calls kj35 23 t253 a1 t254 _ A70.out).mono ?_); rintro e w' ⟨rfl, ⟨nd, rfl⟩⟩; refine ⟨_, rfl, ?_⟩) | ((with_reducible refine gate_callee (f := 18) rfl ?_); refine goesL_ (some 171) rfl rfl Try.func18 (by kernel_rfl) rfl #[.int .i64 25, .int .u16 a0, .int .u16 a1] rfl (by (try simp only [List.map_toArray, List.map_cons, List.map_nil]); first | done | rfl | (simp only [List.length_drop, List.length_take]; rfl)) ?_; (with_reducible refine (wisplaw01_two.calls kj35 25 a0 a1 t255 _ A71.out).mono ?_); rintro e w' ⟨rfl, ⟨nd, rfl⟩⟩; refine ⟨_, rfl, ?_⟩) | ((with_reducible refine gate_callee (f := 18) rfl ?_); refine goesL_ (some 172) rfl rfl Try.func18 (by kernel_rfl) rfl #[.int .i64 21, .int .u16 t254, .int .u16 t255] rfl (by (try simp only [List.map_toArray, List.map_cons, List.map_nil]); first | done | rfl | (simp only [List.length_drop, List.length_take]; rfl)) ?_; (with_reducible refine (wisplaw01_two.calls kj35 21 t254 t255 t256 _ A72.out).mono ?_); rintro e w' ⟨rfl, ⟨nd, rfl⟩⟩; refine ⟨_, rfl, ?_⟩))
                              go_meet
                              case rel => exact ⟨_, (true), (by first | rfl | (simp; done) | (simp [*]; done)), H', ⟨by have := HJ4.out; have := HJ16.out; have := HJ35.out; first | omega | exact Nat.le_refl _⟩, by repeat (first | exact Drawn0.refl _ | apply Drawn0.step)⟩
                        case rest =>
                          clear HC68
                          try clear c1
                          try clear c2
                          try clear p2
                          try clear c3
                          try clear c4
                          try clear c5
                          try clear c6
                          try clear p6
                          try clear c7
                          try clear c7b0
                          try clear c7b1
                          try clear c8
                          try clear c8b0
                          try clear c9
                          try clear c9b0
                          try clear c10
                          try clear c12
                          try clear c12b0
                          try clear c12b1
                          try clear c14
                          try clear c14b0
                          try clear c16
                          try clear c18
                          try clear c19
                          try clear c20
                          try clear c20b0
                          try clear c20b1
                          try clear c23
                          try clear c23b0
                          try clear c23b1
                          try clear c26
                          try clear c26b0
                          try clear c26b1
                          try clear c29
                          try clear c29b0
                          try clear c29b1
                          try clear c32
                          try clear c32b0
                          try clear c32b1
                          try clear c35
                          try clear c39
                          try clear c39b0
                          try clear c39b1
                          try clear c42
                          try clear c42b0
                          try clear c42b1
                          try clear c45
                          try clear c45b0
                          try clear c45b1
                          try clear c48
                          try clear c48b0
                          try clear c48b1
                          try clear c51
                          try clear c51b0
                          try clear c51b1
                          try clear c54
                          try clear c59
                          try clear c59b0
                          try clear c59b1
                          try clear c60
                          try clear c60b0
                          try clear c60b1
                          try clear c62
                          try clear c62b0
                          try clear c62b1
                          try clear c64
                          try clear c64b0
                          try clear c64b1
                          try clear c66
                          try clear c66b0
                          try clear c66b1
                          try clear c73
                          try clear c73b0
                          try clear c73b1
                          try clear c78
                          try clear c78b0
                          try clear c78b1
                          try clear p2
                          try clear p6
                          obtain ⟨kq, x194_67, rfl, HA, HJ67, ⟨mc67, rfl⟩⟩ := hcut
                          cases kq with
                          | zero => exact absurd HA.out (by simp [wisplaw01_NumBack.j3])
                          | succ kj67 =>
                            have H := HA.out
                            clear HA
                            simp only [wisplaw01_NumBack.j3] at H
                            by_cases c80 : x194_67 = true
                            · subst c80
                              have H1 : (some false) = some r := by rw [if_pos rfl] at H; exact H
                              clear H
                              have H := H1
                              clear H1
                              as_aux_lemma =>
                                obtain rfl := Option.some.inj H
                                go_wp2
                                go_ret
                                exact ⟨by first | rfl | (simp; done) | (simp [*]; done), by repeat (first | exact Drawn0.refl _ | apply Drawn0.step)⟩
                            · replace c80 := Bool.eq_false_iff.mpr c80
                              subst c80
                              have H1 : ((wisplaw01_two.f kj67 25 a0 a1).bind fun t262 => ((num_Signed.f t262).bind fun t263 => ((num_Signed.f a1).bind fun t264 => (if t264 < 0 then (if t263 < (wrap64 (-t264)) then (if (wrap64 (-t263)) < (wrap64 (-t264)) then (if t263 = 0 then (some true) else (some ((decide (t263 < 0)) == (decide (t215 < 0))))) else (some false)) else (some false)) else (if t263 < t264 then (if (wrap64 (-t263)) < t264 then (if t263 = 0 then (some true) else (some ((decide (t263 < 0)) == (decide (t215 < 0))))) else (some false)) else (some false)))))) = some r := by rw [if_neg (show ¬ (false = true) by decide)] at H; exact H
                              clear H
                              have H := H1
                              clear H1
                              replace H := Option.bind_eq_some_iff.mp H
                              obtain ⟨t262, A810, H⟩ := H
                              replace H : ((num_Signed.f t262).bind fun t263 => ((num_Signed.f a1).bind fun t264 => (if t264 < 0 then (if t263 < (wrap64 (-t264)) then (if (wrap64 (-t263)) < (wrap64 (-t264)) then (if t263 = 0 then (some true) else (some ((decide (t263 < 0)) == (decide (t215 < 0))))) else (some false)) else (some false)) else (if t263 < t264 then (if (wrap64 (-t263)) < t264 then (if t263 = 0 then (some true) else (some ((decide (t263 < 0)) == (decide (t215 < 0))))) else (some false)) else (some false))))) = some r := H
                              have A81 := Aside0.mk A810
                              clear A810
                              replace H := Option.bind_eq_some_iff.mp H
                              obtain ⟨t263, A820, H⟩ := H
                              replace H : ((num_Signed.f a1).bind fun t264 => (if t264 < 0 then (if t263 < (wrap64 (-t264)) then (if (wrap64 (-t263)) < (wrap64 (-t264)) then (if t263 = 0 then (some true) else (some ((decide (t263 < 0)) == (decide (t215 < 0))))) else (some false)) else (some false)) else (if t263 < t264 then (if (wrap64 (-t263)) < t264 then (if t263 = 0 then (some true) else (some ((decide (t263 < 0)) == (decide (t215 < 0))))) else (some false)) else (some false)))) = some r := H
                              have A82 := Aside0.mk A820
                              clear A820
                              replace H := Option.bind_eq_some_iff.mp H
                              obtain ⟨t264, A830, H⟩ := H
                              replace H : (if t264 < 0 then (if t263 < (wrap64 (-t264)) then (if (wrap64 (-t263)) < (wrap64 (-t264)) then (if t263 = 0 then (some true) else (some ((decide (t263 < 0)) == (decide (t215 < 0))))) else (some false)) else (some false)) else (if t263 < t264 then (if (wrap64 (-t263)) < t264 then (if t263 = 0 then (some true) else (some ((decide (t263 < 0)) == (decide (t215 < 0))))) else (some false)) else (some false))) = some r := H
                              have A83 := Aside0.mk A830
                              clear A830
                              by_cases c84 : t264 < 0
                              · rw [if_pos c84] at H
                                have c84b0 : decide (t264 < 0) = true := decide_eq_true c84
                                clear c84
                                by_cases c85 : t263 < (wrap64 (-t264))
                                · rw [if_pos c85] at H
                                  have c85b0 : decide (t263 < (wrap64 (-t264))) = true := decide_eq_true c85
                                  clear c85
                                  by_cases c86 : (wrap64 (-t263)) < (wrap64 (-t264))
                                  · rw [if_pos c86] at H
                                    have c86b0 : decide ((wrap64 (-t263)) < (wrap64 (-t264))) = true := decide_eq_true c86
                                    clear c86
                                    by_cases c87 : t263 = 0
                                    · rw [if_pos c87] at H
                                      have c87b0 : (t263 == 0) = true := beq_iff_eq.mpr c87
                                      have c87b1 : (t263 != 0) = false := bne_eq_false_iff_eq.mpr c87
                                      clear c87
                                      as_aux_lemma =>
                                        obtain rfl := Option.some.inj H
                                        go_wp2_with (first | ((with_reducible refine gate_callee (f := 18) rfl ?_); refine goesL_ (some 197) rfl rfl Try.func18 (by kernel_rfl) rfl #[.int .i64 25, .int .u16 a0, .int .u16 a1] rfl (by (try simp only [List.map_toArray, List.map_cons, List.map_nil]); first | done | rfl | (simp only [List.length_drop, List.length_take]; rfl)) ?_; (with_reducible refine (wisplaw01_two.calls kj67 25 a0 a1 t262 _ A81.out).mono ?_); rintro e w' ⟨rfl, ⟨nd, rfl⟩⟩; refine ⟨_, rfl, ?_⟩) | ((with_reducible refine gate_callee (f := 10) rfl ?_); refine goesL_ (some 198) rfl rfl Try.func10 (by kernel_rfl) rfl #[.int .u16 t262] rfl (by (try simp only [List.map_toArray, List.map_cons, List.map_nil]); first | done | rfl | (simp only [List.length_drop, List.length_take]; rfl)) ?_; (with_reducible refine (num_Signed.calls t262 t263 _ A82.out).mono ?_); rintro e w' ⟨rfl, ⟨nd, rfl⟩⟩; refine ⟨_, rfl, ?_⟩) | ((with_reducible refine gate_callee (f := 10) rfl ?_); refine goesL_ (some 200) rfl rfl Try.func10 (by kernel_rfl) rfl #[.int .u16 a1] rfl (by (try simp only [List.map_toArray, List.map_cons, List.map_nil]); first | done | rfl | (simp only [List.length_drop, List.length_take]; rfl)) ?_; (with_reducible refine (num_Signed.calls a1 t264 _ A83.out).mono ?_); rintro e w' ⟨rfl, ⟨nd, rfl⟩⟩; refine ⟨_, rfl, ?_⟩))
                                        go_ret
                                        exact ⟨by first | rfl | (simp; done) | (simp [*]; done), by repeat (first | exact Drawn0.refl _ | apply Drawn0.step)⟩
                                    · rw [if_neg c87] at H
                                      have c87b0 : (t263 == 0) = false := beq_eq_false_iff_ne.mpr c87
                                      have c87b1 : (t263 != 0) = true := bne_iff_ne.mpr c87
                                      as_aux_lemma =>
                                        obtain rfl := Option.some.inj H
                                        go_wp2_with (first | ((with_reducible refine gate_callee (f := 18) rfl ?_); refine goesL_ (some 197) rfl rfl Try.func18 (by kernel_rfl) rfl #[.int .i64 25, .int .u16 a0, .int .u16 a1] rfl (by (try simp only [List.map_toArray, List.map_cons, List.map_nil]); first | done | rfl | (simp only [List.length_drop, List.length_take]; rfl)) ?_; (with_reducible refine (wisplaw01_two.calls kj67 25 a0 a1 t262 _ A81.out).mono ?_); rintro e w' ⟨rfl, ⟨nd, rfl⟩⟩; refine ⟨_, rfl, ?_⟩) | ((with_reducible refine gate_callee (f := 10) rfl ?_); refine goesL_ (some 198) rfl rfl Try.func10 (by kernel_rfl) rfl #[.int .u16 t262] rfl (by (try simp only [List.map_toArray, List.map_cons, List.map_nil]); first | done | rfl | (simp only [List.length_drop, List.length_take]; rfl)) ?_; (with_reducible refine (num_Signed.calls t262 t263 _ A82.out).mono ?_); rintro e w' ⟨rfl, ⟨nd, rfl⟩⟩; refine ⟨_, rfl, ?_⟩) | ((with_reducible refine gate_callee (f := 10) rfl ?_); refine goesL_ (some 200) rfl rfl Try.func10 (by kernel_rfl) rfl #[.int .u16 a1] rfl (by (try simp only [List.map_toArray, List.map_cons, List.map_nil]); first | done | rfl | (simp only [List.length_drop, List.length_take]; rfl)) ?_; (with_reducible refine (num_Signed.calls a1 t264 _ A83.out).mono ?_); rintro e w' ⟨rfl, ⟨nd, rfl⟩⟩; refine ⟨_, rfl, ?_⟩))
                                        go_ret
                                        exact ⟨by first | rfl | (simp; done) | (simp [*]; done), by repeat (first | exact Drawn0.refl _ | apply Drawn0.step)⟩
                                  · rw [if_neg c86] at H
                                    have c86b0 : decide ((wrap64 (-t263)) < (wrap64 (-t264))) = false := decide_eq_false c86
                                    clear c86
                                    as_aux_lemma =>
                                      obtain rfl := Option.some.inj H
                                      go_wp2_with (first | ((with_reducible refine gate_callee (f := 18) rfl ?_); refine goesL_ (some 197) rfl rfl Try.func18 (by kernel_rfl) rfl #[.int .i64 25, .int .u16 a0, .int .u16 a1] rfl (by (try simp only [List.map_toArray, List.map_cons, List.map_nil]); first | done | rfl | (simp only [List.length_drop, List.length_take]; rfl)) ?_; (with_reducible refine (wisplaw01_two.calls kj67 25 a0 a1 t262 _ A81.out).mono ?_); rintro e w' ⟨rfl, ⟨nd, rfl⟩⟩; refine ⟨_, rfl, ?_⟩) | ((with_reducible refine gate_callee (f := 10) rfl ?_); refine goesL_ (some 198) rfl rfl Try.func10 (by kernel_rfl) rfl #[.int .u16 t262] rfl (by (try simp only [List.map_toArray, List.map_cons, List.map_nil]); first | done | rfl | (simp only [List.length_drop, List.length_take]; rfl)) ?_; (with_reducible refine (num_Signed.calls t262 t263 _ A82.out).mono ?_); rintro e w' ⟨rfl, ⟨nd, rfl⟩⟩; refine ⟨_, rfl, ?_⟩) | ((with_reducible refine gate_callee (f := 10) rfl ?_); refine goesL_ (some 200) rfl rfl Try.func10 (by kernel_rfl) rfl #[.int .u16 a1] rfl (by (try simp only [List.map_toArray, List.map_cons, List.map_nil]); first | done | rfl | (simp only [List.length_drop, List.length_take]; rfl)) ?_; (with_reducible refine (num_Signed.calls a1 t264 _ A83.out).mono ?_); rintro e w' ⟨rfl, ⟨nd, rfl⟩⟩; refine ⟨_, rfl, ?_⟩))
                                      go_ret
                                      exact ⟨by first | rfl | (simp; done) | (simp [*]; done), by repeat (first | exact Drawn0.refl _ | apply Drawn0.step)⟩
                                · rw [if_neg c85] at H
                                  have c85b0 : decide (t263 < (wrap64 (-t264))) = false := decide_eq_false c85
                                  clear c85
                                  as_aux_lemma =>
                                    obtain rfl := Option.some.inj H
                                    go_wp2_with (first | ((with_reducible refine gate_callee (f := 18) rfl ?_); refine goesL_ (some 197) rfl rfl Try.func18 (by kernel_rfl) rfl #[.int .i64 25, .int .u16 a0, .int .u16 a1] rfl (by (try simp only [List.map_toArray, List.map_cons, List.map_nil]); first | done | rfl | (simp only [List.length_drop, List.length_take]; rfl)) ?_; (with_reducible refine (wisplaw01_two.calls kj67 25 a0 a1 t262 _ A81.out).mono ?_); rintro e w' ⟨rfl, ⟨nd, rfl⟩⟩; refine ⟨_, rfl, ?_⟩) | ((with_reducible refine gate_callee (f := 10) rfl ?_); refine goesL_ (some 198) rfl rfl Try.func10 (by kernel_rfl) rfl #[.int .u16 t262] rfl (by (try simp only [List.map_toArray, List.map_cons, List.map_nil]); first | done | rfl | (simp only [List.length_drop, List.length_take]; rfl)) ?_; (with_reducible refine (num_Signed.calls t262 t263 _ A82.out).mono ?_); rintro e w' ⟨rfl, ⟨nd, rfl⟩⟩; refine ⟨_, rfl, ?_⟩) | ((with_reducible refine gate_callee (f := 10) rfl ?_); refine goesL_ (some 200) rfl rfl Try.func10 (by kernel_rfl) rfl #[.int .u16 a1] rfl (by (try simp only [List.map_toArray, List.map_cons, List.map_nil]); first | done | rfl | (simp only [List.length_drop, List.length_take]; rfl)) ?_; (with_reducible refine (num_Signed.calls a1 t264 _ A83.out).mono ?_); rintro e w' ⟨rfl, ⟨nd, rfl⟩⟩; refine ⟨_, rfl, ?_⟩))
                                    go_ret
                                    exact ⟨by first | rfl | (simp; done) | (simp [*]; done), by repeat (first | exact Drawn0.refl _ | apply Drawn0.step)⟩
                              · rw [if_neg c84] at H
                                have c84b0 : decide (t264 < 0) = false := decide_eq_false c84
                                clear c84
                                by_cases c88 : t263 < t264
                                · rw [if_pos c88] at H
                                  have c88b0 : decide (t263 < t264) = true := decide_eq_true c88
                                  clear c88
                                  by_cases c89 : (wrap64 (-t263)) < t264
                                  · rw [if_pos c89] at H
                                    have c89b0 : decide ((wrap64 (-t263)) < t264) = true := decide_eq_true c89
                                    clear c89
                                    by_cases c90 : t263 = 0
                                    · rw [if_pos c90] at H
                                      have c90b0 : (t263 == 0) = true := beq_iff_eq.mpr c90
                                      have c90b1 : (t263 != 0) = false := bne_eq_false_iff_eq.mpr c90
                                      clear c90
                                      as_aux_lemma =>
                                        obtain rfl := Option.some.inj H
                                        go_wp2_with (first | ((with_reducible refine gate_callee (f := 18) rfl ?_); refine goesL_ (some 197) rfl rfl Try.func18 (by kernel_rfl) rfl #[.int .i64 25, .int .u16 a0, .int .u16 a1] rfl (by (try simp only [List.map_toArray, List.map_cons, List.map_nil]); first | done | rfl | (simp only [List.length_drop, List.length_take]; rfl)) ?_; (with_reducible refine (wisplaw01_two.calls kj67 25 a0 a1 t262 _ A81.out).mono ?_); rintro e w' ⟨rfl, ⟨nd, rfl⟩⟩; refine ⟨_, rfl, ?_⟩) | ((with_reducible refine gate_callee (f := 10) rfl ?_); refine goesL_ (some 198) rfl rfl Try.func10 (by kernel_rfl) rfl #[.int .u16 t262] rfl (by (try simp only [List.map_toArray, List.map_cons, List.map_nil]); first | done | rfl | (simp only [List.length_drop, List.length_take]; rfl)) ?_; (with_reducible refine (num_Signed.calls t262 t263 _ A82.out).mono ?_); rintro e w' ⟨rfl, ⟨nd, rfl⟩⟩; refine ⟨_, rfl, ?_⟩) | ((with_reducible refine gate_callee (f := 10) rfl ?_); refine goesL_ (some 200) rfl rfl Try.func10 (by kernel_rfl) rfl #[.int .u16 a1] rfl (by (try simp only [List.map_toArray, List.map_cons, List.map_nil]); first | done | rfl | (simp only [List.length_drop, List.length_take]; rfl)) ?_; (with_reducible refine (num_Signed.calls a1 t264 _ A83.out).mono ?_); rintro e w' ⟨rfl, ⟨nd, rfl⟩⟩; refine ⟨_, rfl, ?_⟩))
                                        go_ret
                                        exact ⟨by first | rfl | (simp; done) | (simp [*]; done), by repeat (first | exact Drawn0.refl _ | apply Drawn0.step)⟩
                                    · rw [if_neg c90] at H
                                      have c90b0 : (t263 == 0) = false := beq_eq_false_iff_ne.mpr c90
                                      have c90b1 : (t263 != 0) = true := bne_iff_ne.mpr c90
                                      as_aux_lemma =>
                                        obtain rfl := Option.some.inj H
                                        go_wp2_with (first | ((with_reducible refine gate_callee (f := 18) rfl ?_); refine goesL_ (some 197) rfl rfl Try.func18 (by kernel_rfl) rfl #[.int .i64 25, .int .u16 a0, .int .u16 a1] rfl (by (try simp only [List.map_toArray, List.map_cons, List.map_nil]); first | done | rfl | (simp only [List.length_drop, List.length_take]; rfl)) ?_; (with_reducible refine (wisplaw01_two.calls kj67 25 a0 a1 t262 _ A81.out).mono ?_); rintro e w' ⟨rfl, ⟨nd, rfl⟩⟩; refine ⟨_, rfl, ?_⟩) | ((with_reducible refine gate_callee (f := 10) rfl ?_); refine goesL_ (some 198) rfl rfl Try.func10 (by kernel_rfl) rfl #[.int .u16 t262] rfl (by (try simp only [List.map_toArray, List.map_cons, List.map_nil]); first | done | rfl | (simp only [List.length_drop, List.length_take]; rfl)) ?_; (with_reducible refine (num_Signed.calls t262 t263 _ A82.out).mono ?_); rintro e w' ⟨rfl, ⟨nd, rfl⟩⟩; refine ⟨_, rfl, ?_⟩) | ((with_reducible refine gate_callee (f := 10) rfl ?_); refine goesL_ (some 200) rfl rfl Try.func10 (by kernel_rfl) rfl #[.int .u16 a1] rfl (by (try simp only [List.map_toArray, List.map_cons, List.map_nil]); first | done | rfl | (simp only [List.length_drop, List.length_take]; rfl)) ?_; (with_reducible refine (num_Signed.calls a1 t264 _ A83.out).mono ?_); rintro e w' ⟨rfl, ⟨nd, rfl⟩⟩; refine ⟨_, rfl, ?_⟩))
                                        go_ret
                                        exact ⟨by first | rfl | (simp; done) | (simp [*]; done), by repeat (first | exact Drawn0.refl _ | apply Drawn0.step)⟩
                                  · rw [if_neg c89] at H
                                    have c89b0 : decide ((wrap64 (-t263)) < t264) = false := decide_eq_false c89
                                    clear c89
                                    as_aux_lemma =>
                                      obtain rfl := Option.some.inj H
                                      go_wp2_with (first | ((with_reducible refine gate_callee (f := 18) rfl ?_); refine goesL_ (some 197) rfl rfl Try.func18 (by kernel_rfl) rfl #[.int .i64 25, .int .u16 a0, .int .u16 a1] rfl (by (try simp only [List.map_toArray, List.map_cons, List.map_nil]); first | done | rfl | (simp only [List.length_drop, List.length_take]; rfl)) ?_; (with_reducible refine (wisplaw01_two.calls kj67 25 a0 a1 t262 _ A81.out).mono ?_); rintro e w' ⟨rfl, ⟨nd, rfl⟩⟩; refine ⟨_, rfl, ?_⟩) | ((with_reducible refine gate_callee (f := 10) rfl ?_); refine goesL_ (some 198) rfl rfl Try.func10 (by kernel_rfl) rfl #[.int .u16 t262] rfl (by (try simp only [List.map_toArray, List.map_cons, List.map_nil]); first | done | rfl | (simp only [List.length_drop, List.length_take]; rfl)) ?_; (with_reducible refine (num_Signed.calls t262 t263 _ A82.out).mono ?_); rintro e w' ⟨rfl, ⟨nd, rfl⟩⟩; refine ⟨_, rfl, ?_⟩) | ((with_reducible refine gate_callee (f := 10) rfl ?_); refine goesL_ (some 200) rfl rfl Try.func10 (by kernel_rfl) rfl #[.int .u16 a1] rfl (by (try simp only [List.map_toArray, List.map_cons, List.map_nil]); first | done | rfl | (simp only [List.length_drop, List.length_take]; rfl)) ?_; (with_reducible refine (num_Signed.calls a1 t264 _ A83.out).mono ?_); rintro e w' ⟨rfl, ⟨nd, rfl⟩⟩; refine ⟨_, rfl, ?_⟩))
                                      go_ret
                                      exact ⟨by first | rfl | (simp; done) | (simp [*]; done), by repeat (first | exact Drawn0.refl _ | apply Drawn0.step)⟩
                                · rw [if_neg c88] at H
                                  have c88b0 : decide (t263 < t264) = false := decide_eq_false c88
                                  clear c88
                                  as_aux_lemma =>
                                    obtain rfl := Option.some.inj H
                                    go_wp2_with (first | ((with_reducible refine gate_callee (f := 18) rfl ?_); refine goesL_ (some 197) rfl rfl Try.func18 (by kernel_rfl) rfl #[.int .i64 25, .int .u16 a0, .int .u16 a1] rfl (by (try simp only [List.map_toArray, List.map_cons, List.map_nil]); first | done | rfl | (simp only [List.length_drop, List.length_take]; rfl)) ?_; (with_reducible refine (wisplaw01_two.calls kj67 25 a0 a1 t262 _ A81.out).mono ?_); rintro e w' ⟨rfl, ⟨nd, rfl⟩⟩; refine ⟨_, rfl, ?_⟩) | ((with_reducible refine gate_callee (f := 10) rfl ?_); refine goesL_ (some 198) rfl rfl Try.func10 (by kernel_rfl) rfl #[.int .u16 t262] rfl (by (try simp only [List.map_toArray, List.map_cons, List.map_nil]); first | done | rfl | (simp only [List.length_drop, List.length_take]; rfl)) ?_; (with_reducible refine (num_Signed.calls t262 t263 _ A82.out).mono ?_); rintro e w' ⟨rfl, ⟨nd, rfl⟩⟩; refine ⟨_, rfl, ?_⟩) | ((with_reducible refine gate_callee (f := 10) rfl ?_); refine goesL_ (some 200) rfl rfl Try.func10 (by kernel_rfl) rfl #[.int .u16 a1] rfl (by (try simp only [List.map_toArray, List.map_cons, List.map_nil]); first | done | rfl | (simp only [List.length_drop, List.length_take]; rfl)) ?_; (with_reducible refine (num_Signed.calls a1 t264 _ A83.out).mono ?_); rintro e w' ⟨rfl, ⟨nd, rfl⟩⟩; refine ⟨_, rfl, ?_⟩))
                                    go_ret
                                    exact ⟨by first | rfl | (simp; done) | (simp [*]; done), by repeat (first | exact Drawn0.refl _ | apply Drawn0.step)⟩
                    · rw [if_neg c59] at H
                      have c59b0 : (t247 == t248) = false := beq_eq_false_iff_ne.mpr c59
                      have c59b1 : (t247 != t248) = true := bne_iff_ne.mpr c59
                      as_aux_lemma =>
                        obtain rfl := Option.some.inj H
                        go_wp2_with (first | ((with_reducible refine gate_callee (f := 18) rfl ?_); refine goesL_ (some 131) rfl rfl Try.func18 (by kernel_rfl) rfl #[.int .i64 36, .int .u16 a0, .int .u16 a1] rfl (by (try simp only [List.map_toArray, List.map_cons, List.map_nil]); first | done | rfl | (simp only [List.length_drop, List.length_take]; rfl)) ?_; (with_reducible refine (wisplaw01_two.calls kj35 36 a0 a1 t245 _ A55.out).mono ?_); rintro e w' ⟨rfl, ⟨nd, rfl⟩⟩; refine ⟨_, rfl, ?_⟩) | ((with_reducible refine gate_callee (f := 18) rfl ?_); refine goesL_ (some 134) rfl rfl Try.func18 (by kernel_rfl) rfl #[.int .i64 37, .int .u16 a0, .int .u16 a1] rfl (by (try simp only [List.map_toArray, List.map_cons, List.map_nil]); first | done | rfl | (simp only [List.length_drop, List.length_take]; rfl)) ?_; (with_reducible refine (wisplaw01_two.calls kj35 37 a0 a1 t246 _ A56.out).mono ?_); rintro e w' ⟨rfl, ⟨nd, rfl⟩⟩; refine ⟨_, rfl, ?_⟩) | ((with_reducible refine gate_callee (f := 18) rfl ?_); refine goesL_ (some 135) rfl rfl Try.func18 (by kernel_rfl) rfl #[.int .i64 21, .int .u16 t245, .int .u16 t246] rfl (by (try simp only [List.map_toArray, List.map_cons, List.map_nil]); first | done | rfl | (simp only [List.length_drop, List.length_take]; rfl)) ?_; (with_reducible refine (wisplaw01_two.calls kj35 21 t245 t246 t247 _ A57.out).mono ?_); rintro e w' ⟨rfl, ⟨nd, rfl⟩⟩; refine ⟨_, rfl, ?_⟩) | ((with_reducible refine gate_callee (f := 18) rfl ?_); refine goesL_ (some 138) rfl rfl Try.func18 (by kernel_rfl) rfl #[.int .i64 21, .int .u16 a0, .int .u16 a1] rfl (by (try simp only [List.map_toArray, List.map_cons, List.map_nil]); first | done | rfl | (simp only [List.length_drop, List.length_take]; rfl)) ?_; (with_reducible refine (wisplaw01_two.calls kj35 21 a0 a1 t248 _ A58.out).mono ?_); rintro e w' ⟨rfl, ⟨nd, rfl⟩⟩; refine ⟨_, rfl, ?_⟩))
                        go_ret
                        exact ⟨by first | rfl | (simp; done) | (simp [*]; done), by repeat (first | exact Drawn0.refl _ | apply Drawn0.step)⟩

/-- THE ONE PURE STATEMENT of wisplaw01_NumBack: yours. -/
def wisplaw01_NumBack.Pure : Prop := ∀ (a0 : Int) (a1 : Int) (a2 : Int), (Lit.int .u16 a0).wf = true → (Lit.int .u16 a1).wf = true → (Lit.int .i64 a2).wf = true → ∃ k, wisplaw01_NumBack.f k a0 a1 a2 = some true
theorem wisplaw01_NumBack.walk (P : wisplaw01_NumBack.Pure) (a0 : Int) (a1 : Int) (a2 : Int) (w : World) (w0 : (Lit.int .u16 a0).wf = true) (w1 : (Lit.int .u16 a1).wf = true) (w2 : (Lit.int .i64 a2).wf = true) :
    Calls Try.prog 5 #[.int .u16 a0, .int .u16 a1, .int .i64 a2] w fun e w' => e = .returned (.bool true) ∧ Below w.heap.size w w' := by
  obtain ⟨k, h⟩ := P a0 a1 a2 w0 w1 w2
  refine (wisplaw01_NumBack.calls k a0 a1 a2 true w h).mono ?_
  rintro e w' ⟨rfl, hd⟩
  exact ⟨rfl, hd.below⟩

end Go.Proofs.Ytgnjlgfnpfjjnaa.P
