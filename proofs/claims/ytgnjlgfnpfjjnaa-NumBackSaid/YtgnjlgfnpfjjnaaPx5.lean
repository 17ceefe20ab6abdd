/- Printed by a program of this session (it turns the kit's print): see wip/myprint. -/
import Derived.Test.YtgnjlgfnpfjjnaaPx0
import Derived.Test.YtgnjlgfnpfjjnaaPx1
import Derived.Test.YtgnjlgfnpfjjnaaPx2
import Derived.Test.YtgnjlgfnpfjjnaaPx4
namespace Go.Proofs.Ytgnjlgfnpfjjnaa.P
open Go.RowKit Go.Proofs.YtgnjlgfnpfjjnaaW.PrintWords Go.Proofs.YtgnjlgfnpfjjnaaW.PrintLast Go.Proofs.YtgnjlgfnpfjjnaaW.PrintMore Go.Proofs.Ytgnjlgfnpfjjnaa.Mine
attribute [local go_sem] max2_int min2_int max_two min_two max_three min_three max_four min_four   -- for this text's walks alone
set_option linter.unusedVariables false
set_option linter.unusedSimpArgs false

/-! ### wisplaw01_NumAll: function 4 -/
mutual
def wisplaw01_NumAll.j0 : Nat → Int → Int → Int → Bool → Option (Bool)
  | 0, _, _, _, _ => none
  | k + 1, x0, x2, x3, x40 => if x40 = true then (some false) else (wisplaw01_NumAll.l0 k x2 x3 (([x0] : List Int)) (-1))
def wisplaw01_NumAll.l0 : Nat → Int → Int → List Int → Int → Option (Bool)
  | 0, _, _, _, _ => none
  | k + 1, x2, x3, x9, x10 => if x10 < 66 then (if x9.length < 17592186044416 then (wisplaw01_NumAll.l0 k x2 x3 (x9 ++ [x10]) (wrap64 (x10 + 1))) else (none)) else (wisplaw01_NumAll.l1 k x2 x3 x9 0)
def wisplaw01_NumAll.l1 : Nat → Int → Int → List Int → Int → Option (Bool)
  | 0, _, _, _, _ => none
  | k + 1, x2, x3, x9, x11 => if x11 < (x9.length : Int) then (if 0 ≤ x11 then ((num_Unary.f (rd x9 x11) x2).bind fun bt200 => ((wispref01_Unary.f (rd x9 x11) x2).bind fun bt203 => (if bt200.1 = bt203.1 then (wisplaw01_NumAll.j3 k x2 x3 x9 x11 (bt200.2 != bt203.2)) else (wisplaw01_NumAll.j3 k x2 x3 x9 x11 true)))) else (none)) else (some true)
def wisplaw01_NumAll.j3 : Nat → Int → Int → List Int → Int → Bool → Option (Bool)
  | 0, _, _, _, _, _ => none
  | k + 1, x2, x3, x9, x11, x82 => if x82 = true then (some false) else (if 0 ≤ x11 then (if x11 < (x9.length : Int) then ((num_Binary.f k (rd x9 x11) x2 x3).bind fun bt206 => ((wispref01_Binary.f k (rd x9 x11) x2 x3).bind fun bt209 => (if bt206.1 = bt209.1 then (if (bt206.2 != bt209.2) = true then (some false) else (wisplaw01_NumAll.l1 k x2 x3 x9 (wrap64 (x11 + 1)))) else (some false)))) else (none)) else (none))
end
def wisplaw01_NumAll.f (k : Nat) (a0 : Int) (a1 : Int) (a2 : Int) (a3 : Int) : Option (Bool) := (num_Signed.f a2).bind fun t186 => ((wispref01_Signed.f a2).bind fun t187 => (if t186 = t187 then ((num_Cell.f a1).bind fun t188 => ((wispref01_Cell.f a1).bind fun t189 => (if t188 = t189 then ((num_Flag.f (decide (a1 > 0))).bind fun t190 => ((wispref01_Flag.f (decide (a1 > 0))).bind fun t191 => (if t190 = t191 then ((wisplaw01_fixed.f k).bind fun t192 => (wisplaw01_NumAll.j0 k a0 a2 a3 (!t192))) else (wisplaw01_NumAll.j0 k a0 a2 a3 true)))) else (wisplaw01_NumAll.j0 k a0 a2 a3 true)))) else (wisplaw01_NumAll.j0 k a0 a2 a3 true)))
theorem wisplaw01_NumAll.mono_l : ∀ k, (∀ y0 y1 y2 y3, LeO (wisplaw01_NumAll.j0 k y0 y1 y2 y3) (wisplaw01_NumAll.j0 (k + 1) y0 y1 y2 y3)) ∧ (∀ y0 y1 y2 y3, LeO (wisplaw01_NumAll.l0 k y0 y1 y2 y3) (wisplaw01_NumAll.l0 (k + 1) y0 y1 y2 y3)) ∧ (∀ y0 y1 y2 y3, LeO (wisplaw01_NumAll.l1 k y0 y1 y2 y3) (wisplaw01_NumAll.l1 (k + 1) y0 y1 y2 y3)) ∧ (∀ y0 y1 y2 y3 y4, LeO (wisplaw01_NumAll.j3 k y0 y1 y2 y3 y4) (wisplaw01_NumAll.j3 (k + 1) y0 y1 y2 y3 y4))
  | 0 => ⟨fun _ _ _ _ r h => by simp [wisplaw01_NumAll.j0] at h, fun _ _ _ _ r h => by simp [wisplaw01_NumAll.l0] at h, fun _ _ _ _ r h => by simp [wisplaw01_NumAll.l1] at h, fun _ _ _ _ _ r h => by simp [wisplaw01_NumAll.j3] at h⟩
  | k + 1 => by
    obtain ⟨ih0, ih1, ih2, ih3⟩ := wisplaw01_NumAll.mono_l k
    refine ⟨?_, ?_, ?_, ?_⟩
    · intro y0 y1 y2 y3
      unfold wisplaw01_NumAll.j0
      repeat' first
      | (with_reducible exact ih0 _ _ _ _)
      | (with_reducible exact ih1 _ _ _ _)
      | (with_reducible exact ih2 _ _ _ _)
      | (with_reducible exact ih3 _ _ _ _ _)
      | (with_reducible exact num_Binary.mono _ _ _ _)
      | (with_reducible exact wisplaw01_fixed.mono _)
      | (with_reducible exact wispref01_Binary.mono _ _ _ _)
      | (with_reducible exact LeO.refl _)
      | (with_reducible exact LeO.none _)
      | (with_reducible refine LeO.ite ?_ ?_)
      | (with_reducible refine LeO.bind ?_ (fun _ => ?_))
      | exact ih0 _ _ _ _
      | exact ih1 _ _ _ _
      | exact ih2 _ _ _ _
      | exact ih3 _ _ _ _ _
      | exact num_Binary.mono _ _ _ _
      | exact wisplaw01_fixed.mono _
      | exact wispref01_Binary.mono _ _ _ _
      | exact LeO.none _
      | refine LeO.ite ?_ ?_
      | refine LeO.bind ?_ (fun _ => ?_)
    · intro y0 y1 y2 y3
      unfold wisplaw01_NumAll.l0
      repeat' first
      | (with_reducible exact ih0 _ _ _ _)
      | (with_reducible exact ih1 _ _ _ _)
      | (with_reducible exact ih2 _ _ _ _)
      | (with_reducible exact ih3 _ _ _ _ _)
      | (with_reducible exact num_Binary.mono _ _ _ _)
      | (with_reducible exact wisplaw01_fixed.mono _)
      | (with_reducible exact wispref01_Binary.mono _ _ _ _)
      | (with_reducible exact LeO.refl _)
      | (with_reducible exact LeO.none _)
      | (with_reducible refine LeO.ite ?_ ?_)
      | (with_reducible refine LeO.bind ?_ (fun _ => ?_))
      | exact ih0 _ _ _ _
      | exact ih1 _ _ _ _
      | exact ih2 _ _ _ _
      | exact ih3 _ _ _ _ _
      | exact num_Binary.mono _ _ _ _
      | exact wisplaw01_fixed.mono _
      | exact wispref01_Binary.mono _ _ _ _
      | exact LeO.none _
      | refine LeO.ite ?_ ?_
      | refine LeO.bind ?_ (fun _ => ?_)
    · intro y0 y1 y2 y3
      unfold wisplaw01_NumAll.l1
      repeat' first
      | (with_reducible exact ih0 _ _ _ _)
      | (with_reducible exact ih1 _ _ _ _)
      | (with_reducible exact ih2 _ _ _ _)
      | (with_reducible exact ih3 _ _ _ _ _)
      | (with_reducible exact num_Binary.mono _ _ _ _)
      | (with_reducible exact wisplaw01_fixed.mono _)
      | (with_reducible exact wispref01_Binary.mono _ _ _ _)
      | (with_reducible exact LeO.refl _)
      | (with_reducible exact LeO.none _)
      | (with_reducible refine LeO.ite ?_ ?_)
      | (with_reducible refine LeO.bind ?_ (fun _ => ?_))
      | exact ih0 _ _ _ _
      | exact ih1 _ _ _ _
      | exact ih2 _ _ _ _
      | exact ih3 _ _ _ _ _
      | exact num_Binary.mono _ _ _ _
      | exact wisplaw01_fixed.mono _
      | exact wispref01_Binary.mono _ _ _ _
      | exact LeO.none _
      | refine LeO.ite ?_ ?_
      | refine LeO.bind ?_ (fun _ => ?_)
    · intro y0 y1 y2 y3 y4
      unfold wisplaw01_NumAll.j3
      repeat' first
      | (with_reducible exact ih0 _ _ _ _)
      | (with_reducible exact ih1 _ _ _ _)
      | (with_reducible exact ih2 _ _ _ _)
      | (with_reducible exact ih3 _ _ _ _ _)
      | (with_reducible exact num_Binary.mono _ _ _ _)
      | (with_reducible exact wisplaw01_fixed.mono _)
      | (with_reducible exact wispref01_Binary.mono _ _ _ _)
      | (with_reducible exact LeO.refl _)
      | (with_reducible exact LeO.none _)
      | (with_reducible refine LeO.ite ?_ ?_)
      | (with_reducible refine LeO.bind ?_ (fun _ => ?_))
      | exact ih0 _ _ _ _
      | exact ih1 _ _ _ _
      | exact ih2 _ _ _ _
      | exact ih3 _ _ _ _ _
      | exact num_Binary.mono _ _ _ _
      | exact wisplaw01_fixed.mono _
      | exact wispref01_Binary.mono _ _ _ _
      | exact LeO.none _
      | refine LeO.ite ?_ ?_
      | refine LeO.bind ?_ (fun _ => ?_)
theorem wisplaw01_NumAll.mono : ∀ a0 a1 a2 a3 k, LeO (wisplaw01_NumAll.f k a0 a1 a2 a3) (wisplaw01_NumAll.f (k + 1) a0 a1 a2 a3) := by
  intro a0 a1 a2 a3 k
  obtain ⟨ih0, ih1, ih2, ih3⟩ := wisplaw01_NumAll.mono_l k
  unfold wisplaw01_NumAll.f
  repeat' first
      | (with_reducible exact ih0 _ _ _ _)
      | (with_reducible exact ih1 _ _ _ _)
      | (with_reducible exact ih2 _ _ _ _)
      | (with_reducible exact ih3 _ _ _ _ _)
      | (with_reducible exact num_Binary.mono _ _ _ _)
      | (with_reducible exact wisplaw01_fixed.mono _)
      | (with_reducible exact wispref01_Binary.mono _ _ _ _)
      | (with_reducible exact LeO.refl _)
      | (with_reducible exact LeO.none _)
      | (with_reducible refine LeO.ite ?_ ?_)
      | (with_reducible refine LeO.bind ?_ (fun _ => ?_))
      | exact ih0 _ _ _ _
      | exact ih1 _ _ _ _
      | exact ih2 _ _ _ _
      | exact ih3 _ _ _ _ _
      | exact num_Binary.mono _ _ _ _
      | exact wisplaw01_fixed.mono _
      | exact wispref01_Binary.mono _ _ _ _
      | exact LeO.none _
      | refine LeO.ite ?_ ?_
      | refine LeO.bind ?_ (fun _ => ?_)
set_option maxHeartbeats 8000000 in
set_option maxRecDepth 100000 in
theorem wisplaw01_NumAll.calls (k : Nat) (a0 : Int) (a1 : Int) (a2 : Int) (a3 : Int) (r : Bool) (w : World) (h : wisplaw01_NumAll.f k a0 a1 a2 a3 = some r) :
    Calls Try.prog 4 #[.int .i64 a0, .int .i64 a1, .int .u16 a2, .int .u16 a3] w fun e w' => e = .returned (.bool r) ∧ Below w.heap.size w w' := by
  have HB := Aside0.mk (Below.refl w.heap.size w)
  have H : ((num_Signed.f a2).bind fun t186 => ((wispref01_Signed.f a2).bind fun t187 => (if t186 = t187 then ((num_Cell.f a1).bind fun t188 => ((wispref01_Cell.f a1).bind fun t189 => (if t188 = t189 then ((num_Flag.f (decide (a1 > 0))).bind fun t190 => ((wispref01_Flag.f (decide (a1 > 0))).bind fun t191 => (if t190 = t191 then ((wisplaw01_fixed.f k).bind fun t192 => (wisplaw01_NumAll.j0 k a0 a2 a3 (!t192))) else (wisplaw01_NumAll.j0 k a0 a2 a3 true)))) else (wisplaw01_NumAll.j0 k a0 a2 a3 true)))) else (wisplaw01_NumAll.j0 k a0 a2 a3 true)))) = some r := h
  clear h
  have HC5 := Aside0.mk H
  clear H
  go_enter Try.func4, Try.ntmps4
  go_upto_region 1 with (fail)
  go_cut [40] (fun v40 wc => ∃ (kq : Nat) (x40_4 : Bool), v40 = .bool x40_4 ∧ Aside0 (wisplaw01_NumAll.j0 kq a0 a2 a3 x40_4 = some r) ∧ Aside0 (kq ≤ k) ∧ Aside0 (Below w.heap.size w wc))
  case first =>
    have H := HC5.out
    clear HC5
    replace H := Option.bind_eq_some_iff.mp H
    obtain ⟨t186, A60, H⟩ := H
    replace H : ((wispref01_Signed.f a2).bind fun t187 => (if t186 = t187 then ((num_Cell.f a1).bind fun t188 => ((wispref01_Cell.f a1).bind fun t189 => (if t188 = t189 then ((num_Flag.f (decide (a1 > 0))).bind fun t190 => ((wispref01_Flag.f (decide (a1 > 0))).bind fun t191 => (if t190 = t191 then ((wisplaw01_fixed.f k).bind fun t192 => (wisplaw01_NumAll.j0 k a0 a2 a3 (!t192))) else (wisplaw01_NumAll.j0 k a0 a2 a3 true)))) else (wisplaw01_NumAll.j0 k a0 a2 a3 true)))) else (wisplaw01_NumAll.j0 k a0 a2 a3 true))) = some r := H
    have A6 := Aside0.mk A60
    clear A60
    replace H := Option.bind_eq_some_iff.mp H
    obtain ⟨t187, A70, H⟩ := H
    replace H : (if t186 = t187 then ((num_Cell.f a1).bind fun t188 => ((wispref01_Cell.f a1).bind fun t189 => (if t188 = t189 then ((num_Flag.f (decide (a1 > 0))).bind fun t190 => ((wispref01_Flag.f (decide (a1 > 0))).bind fun t191 => (if t190 = t191 then ((wisplaw01_fixed.f k).bind fun t192 => (wisplaw01_NumAll.j0 k a0 a2 a3 (!t192))) else (wisplaw01_NumAll.j0 k a0 a2 a3 true)))) else (wisplaw01_NumAll.j0 k a0 a2 a3 true)))) else (wisplaw01_NumAll.j0 k a0 a2 a3 true)) = some r := H
    have A7 := Aside0.mk A70
    clear A70
    by_cases c8 : t186 = t187
    · rw [if_pos c8] at H
      have c8b0 : (t186 == t187) = true := beq_iff_eq.mpr c8
      have c8b1 : (t186 != t187) = false := bne_eq_false_iff_eq.mpr c8
      clear c8
      (first | rw [c8b0] | (simp only [i64_w, i32_w]; rw [c8b0]) | skip)
      replace H := Option.bind_eq_some_iff.mp H
      obtain ⟨t188, A90, H⟩ := H
      replace H : ((wispref01_Cell.f a1).bind fun t189 => (if t188 = t189 then ((num_Flag.f (decide (a1 > 0))).bind fun t190 => ((wispref01_Flag.f (decide (a1 > 0))).bind fun t191 => (if t190 = t191 then ((wisplaw01_fixed.f k).bind fun t192 => (wisplaw01_NumAll.j0 k a0 a2 a3 (!t192))) else (wisplaw01_NumAll.j0 k a0 a2 a3 true)))) else (wisplaw01_NumAll.j0 k a0 a2 a3 true))) = some r := H
      have A9 := Aside0.mk A90
      clear A90
      replace H := Option.bind_eq_some_iff.mp H
      obtain ⟨t189, A100, H⟩ := H
      replace H : (if t188 = t189 then ((num_Flag.f (decide (a1 > 0))).bind fun t190 => ((wispref01_Flag.f (decide (a1 > 0))).bind fun t191 => (if t190 = t191 then ((wisplaw01_fixed.f k).bind fun t192 => (wisplaw01_NumAll.j0 k a0 a2 a3 (!t192))) else (wisplaw01_NumAll.j0 k a0 a2 a3 true)))) else (wisplaw01_NumAll.j0 k a0 a2 a3 true)) = some r := H
      have A10 := Aside0.mk A100
      clear A100
      by_cases c11 : t188 = t189
      · rw [if_pos c11] at H
        have c11b0 : (t188 == t189) = true := beq_iff_eq.mpr c11
        have c11b1 : (t188 != t189) = false := bne_eq_false_iff_eq.mpr c11
        clear c11
        replace H := Option.bind_eq_some_iff.mp H
        obtain ⟨t190, A120, H⟩ := H
        replace H : ((wispref01_Flag.f (decide (a1 > 0))).bind fun t191 => (if t190 = t191 then ((wisplaw01_fixed.f k).bind fun t192 => (wisplaw01_NumAll.j0 k a0 a2 a3 (!t192))) else (wisplaw01_NumAll.j0 k a0 a2 a3 true))) = some r := H
        have A12 := Aside0.mk A120
        clear A120
        replace H := Option.bind_eq_some_iff.mp H
        obtain ⟨t191, A130, H⟩ := H
        replace H : (if t190 = t191 then ((wisplaw01_fixed.f k).bind fun t192 => (wisplaw01_NumAll.j0 k a0 a2 a3 (!t192))) else (wisplaw01_NumAll.j0 k a0 a2 a3 true)) = some r := H
        have A13 := Aside0.mk A130
        clear A130
        by_cases c14 : t190 = t191
        · rw [if_pos c14] at H
          have c14b0 : (t190 == t191) = true := beq_iff_eq.mpr c14
          have c14b1 : (t190 != t191) = false := bne_eq_false_iff_eq.mpr c14
          clear c14
          replace H := Option.bind_eq_some_iff.mp H
          obtain ⟨t192, A150, H⟩ := H
          replace H : (wisplaw01_NumAll.j0 k a0 a2 a3 (!t192)) = some r := H
          have A15 := Aside0.mk A150
          clear A150
          have H' := Aside0.mk H
          clear H
          go_wp2_with (first | ((with_reducible refine gate_callee (f := 10) rfl ?_); refine goesL_ (some 17) rfl rfl Try.func10 (by kernel_rfl) rfl #[.int .u16 a2] rfl (by (try simp only [List.map_toArray, List.map_cons, List.map_nil]); first | done | rfl | (simp only [List.length_drop, List.length_take]; rfl)) ?_; (with_reducible refine (num_Signed.calls a2 t186 _ A6.out).mono ?_); rintro e w' ⟨rfl, ⟨nd, rfl⟩⟩; refine ⟨_, rfl, ?_⟩) | ((with_reducible refine gate_callee (f := 11) rfl ?_); refine goesL_ (some 19) rfl rfl Try.func11 (by kernel_rfl) rfl #[.int .u16 a2] rfl (by (try simp only [List.map_toArray, List.map_cons, List.map_nil]); first | done | rfl | (simp only [List.length_drop, List.length_take]; rfl)) ?_; (with_reducible refine (wispref01_Signed.calls a2 t187 _ A7.out).mono ?_); rintro e w' ⟨rfl, ⟨nd, rfl⟩⟩; refine ⟨_, rfl, ?_⟩) | (go_at_call 12; (with_reducible refine (num_Cell.calls a1 t188 _ A9.out).mono ?_); rintro e w' ⟨rfl, ⟨nd, rfl⟩⟩) | (go_at_call 13; (with_reducible refine (wispref01_Cell.calls a1 t189 _ A10.out).mono ?_); rintro e w' ⟨rfl, ⟨nd, rfl⟩⟩) | (go_at_call 14; (with_reducible refine (num_Flag.calls (decide (a1 > 0)) t190 _ A12.out).mono ?_); rintro e w' ⟨rfl, ⟨nd, rfl⟩⟩) | (go_at_call 15; (with_reducible refine (wispref01_Flag.calls (decide (a1 > 0)) t191 _ A13.out).mono ?_); rintro e w' ⟨rfl, ⟨nd, rfl⟩⟩) | (go_at_call 9; (with_reducible refine (wisplaw01_fixed.calls k  t192 _ A15.out).mono ?_); rintro e w' ⟨rfl, ⟨nd, rfl⟩⟩))
          go_meet
          case rel => exact ⟨_, (!t192), (by first | rfl | (simp; done) | (simp [*]; done)), H', ⟨by first | omega | exact Nat.le_refl _⟩, ⟨by repeat (first | (with_reducible first | exact HB.out | apply below_alloc | apply pw_below_drewN | apply below_drew1) | exact HB.out)⟩⟩
        · rw [if_neg c14] at H
          have c14b0 : (t190 == t191) = false := beq_eq_false_iff_ne.mpr c14
          have c14b1 : (t190 != t191) = true := bne_iff_ne.mpr c14
          have H' := Aside0.mk H
          clear H
          go_wp2_with (first | ((with_reducible refine gate_callee (f := 10) rfl ?_); refine goesL_ (some 17) rfl rfl Try.func10 (by kernel_rfl) rfl #[.int .u16 a2] rfl (by (try simp only [List.map_toArray, List.map_cons, List.map_nil]); first | done | rfl | (simp only [List.length_drop, List.length_take]; rfl)) ?_; (with_reducible refine (num_Signed.calls a2 t186 _ A6.out).mono ?_); rintro e w' ⟨rfl, ⟨nd, rfl⟩⟩; refine ⟨_, rfl, ?_⟩) | ((with_reducible refine gate_callee (f := 11) rfl ?_); refine goesL_ (some 19) rfl rfl Try.func11 (by kernel_rfl) rfl #[.int .u16 a2] rfl (by (try simp only [List.map_toArray, List.map_cons, List.map_nil]); first | done | rfl | (simp only [List.length_drop, List.length_take]; rfl)) ?_; (with_reducible refine (wispref01_Signed.calls a2 t187 _ A7.out).mono ?_); rintro e w' ⟨rfl, ⟨nd, rfl⟩⟩; refine ⟨_, rfl, ?_⟩) | (go_at_call 12; (with_reducible refine (num_Cell.calls a1 t188 _ A9.out).mono ?_); rintro e w' ⟨rfl, ⟨nd, rfl⟩⟩) | (go_at_call 13; (with_reducible refine (wispref01_Cell.calls a1 t189 _ A10.out).mono ?_); rintro e w' ⟨rfl, ⟨nd, rfl⟩⟩) | (go_at_call 14; (with_reducible refine (num_Flag.calls (decide (a1 > 0)) t190 _ A12.out).mono ?_); rintro e w' ⟨rfl, ⟨nd, rfl⟩⟩) | (go_at_call 15; (with_reducible refine (wispref01_Flag.calls (decide (a1 > 0)) t191 _ A13.out).mono ?_); rintro e w' ⟨rfl, ⟨nd, rfl⟩⟩))
          go_meet
          case rel => exact ⟨_, (true), (by first | rfl | (simp; done) | (simp [*]; done)), H', ⟨by first | omega | exact Nat.le_refl _⟩, ⟨by repeat (first | (with_reducible first | exact HB.out | apply below_alloc | apply pw_below_drewN | apply below_drew1) | exact HB.out)⟩⟩
      · rw [if_neg c11] at H
        have c11b0 : (t188 == t189) = false := beq_eq_false_iff_ne.mpr c11
        have c11b1 : (t188 != t189) = true := bne_iff_ne.mpr c11
        have H' := Aside0.mk H
        clear H
        go_wp2_with (first | ((with_reducible refine gate_callee (f := 10) rfl ?_); refine goesL_ (some 17) rfl rfl Try.func10 (by kernel_rfl) rfl #[.int .u16 a2] rfl (by (try simp only [List.map_toArray, List.map_cons, List.map_nil]); first | done | rfl | (simp only [List.length_drop, List.length_take]; rfl)) ?_; (with_reducible refine (num_Signed.calls a2 t186 _ A6.out).mono ?_); rintro e w' ⟨rfl, ⟨nd, rfl⟩⟩; refine ⟨_, rfl, ?_⟩) | ((with_reducible refine gate_callee (f := 11) rfl ?_); refine goesL_ (some 19) rfl rfl Try.func11 (by kernel_rfl) rfl #[.int .u16 a2] rfl (by (try simp only [List.map_toArray, List.map_cons, List.map_nil]); first | done | rfl | (simp only [List.length_drop, List.length_take]; rfl)) ?_; (with_reducible refine (wispref01_Signed.calls a2 t187 _ A7.out).mono ?_); rintro e w' ⟨rfl, ⟨nd, rfl⟩⟩; refine ⟨_, rfl, ?_⟩) | (go_at_call 12; (with_reducible refine (num_Cell.calls a1 t188 _ A9.out).mono ?_); rintro e w' ⟨rfl, ⟨nd, rfl⟩⟩) | (go_at_call 13; (with_reducible refine (wispref01_Cell.calls a1 t189 _ A10.out).mono ?_); rintro e w' ⟨rfl, ⟨nd, rfl⟩⟩))
        go_meet
        case rel => exact ⟨_, (true), (by first | rfl | (simp; done) | (simp [*]; done)), H', ⟨by first | omega | exact Nat.le_refl _⟩, ⟨by repeat (first | (with_reducible first | exact HB.out | apply below_alloc | apply pw_below_drewN | apply below_drew1) | exact HB.out)⟩⟩
    · rw [if_neg c8] at H
      have c8b0 : (t186 == t187) = false := beq_eq_false_iff_ne.mpr c8
      have c8b1 : (t186 != t187) = true := bne_iff_ne.mpr c8
      (first | rw [c8b0] | (simp only [i64_w, i32_w]; rw [c8b0]) | skip)
      have H' := Aside0.mk H
      clear H
      go_wp2_with (first | ((with_reducible refine gate_callee (f := 10) rfl ?_); refine goesL_ (some 17) rfl rfl Try.func10 (by kernel_rfl) rfl #[.int .u16 a2] rfl (by (try simp only [List.map_toArray, List.map_cons, List.map_nil]); first | done | rfl | (simp only [List.length_drop, List.length_take]; rfl)) ?_; (with_reducible refine (num_Signed.calls a2 t186 _ A6.out).mono ?_); rintro e w' ⟨rfl, ⟨nd, rfl⟩⟩; refine ⟨_, rfl, ?_⟩) | ((with_reducible refine gate_callee (f := 11) rfl ?_); refine goesL_ (some 19) rfl rfl Try.func11 (by kernel_rfl) rfl #[.int .u16 a2] rfl (by (try simp only [List.map_toArray, List.map_cons, List.map_nil]); first | done | rfl | (simp only [List.length_drop, List.length_take]; rfl)) ?_; (with_reducible refine (wispref01_Signed.calls a2 t187 _ A7.out).mono ?_); rintro e w' ⟨rfl, ⟨nd, rfl⟩⟩; refine ⟨_, rfl, ?_⟩))
      go_meet
      case rel => exact ⟨_, (true), (by first | rfl | (simp; done) | (simp [*]; done)), H', ⟨by first | omega | exact Nat.le_refl _⟩, ⟨by repeat (first | (with_reducible first | exact HB.out | apply below_alloc | apply pw_below_drewN | apply below_drew1) | exact HB.out)⟩⟩
  case rest =>
    clear HC5
    try clear c1
    try clear p2
    try clear c4
    try clear c8
    try clear c8b0
    try clear c8b1
    try clear c10
    try clear c11
    try clear c11b0
    try clear c11b1
    try clear c14
    try clear c14b0
    try clear c14b1
    obtain ⟨kq, x40_4, rfl, HA, HJ4, HB⟩ := hcut
    cases kq with
    | zero => exact absurd HA.out (by simp [wisplaw01_NumAll.j0])
    | succ kj4 =>
      have H := HA.out
      clear HA
      simp only [wisplaw01_NumAll.j0] at H
      by_cases c16 : x40_4 = true
      · subst c16
        have H1 : (some false) = some r := by rw [if_pos rfl] at H; exact H
        clear H
        have H := H1
        clear H1
        obtain rfl := Option.some.inj H
        go_wp2
        go_ret
        exact ⟨by first | rfl | (simp [errW_none, errW_some] <;> rfl) | (simp [*, errW_none, errW_some] <;> rfl), by repeat (first | (with_reducible first | exact HB.out | apply below_alloc | apply pw_below_drewN | apply below_drew1) | exact HB.out)⟩
      · replace c16 := Bool.eq_false_iff.mpr c16
        subst c16
        have H1 : (wisplaw01_NumAll.l0 kj4 a2 a3 (([a0] : List Int)) (-1)) = some r := by rw [if_neg (show ¬ (false = true) by decide)] at H; exact H
        clear H
        have H := H1
        clear H1
        obtain ⟨y193, hy193⟩ : ∃ y_ : List Int, y_ = (([a0] : List Int)) := ⟨_, rfl⟩
        replace H : (wisplaw01_NumAll.l0 kj4 a2 a3 y193 (-1)) = some r := by first | (rw [hy193]; with_reducible exact H) | (have H2_ := (Option.bind_some _ _).symm.trans H; rw [hy193]; with_reducible exact H2_) | (have H2_ := (Option.bind_some _ _).symm.trans H; with_reducible exact H2_) | with_reducible exact H | (rw [hy193]; exact H) | exact H
        have Ny193 := Aside0.mk hy193
        clear hy193
        have H' := Aside0.mk H
        clear H
        go_wp2_with (first | ((with_reducible refine gate_dst (N := 42) rfl ?_); refine Kd.R_lit (Kd.int .i64) _ 3 ?hg (N := 42) ?hd (xs := ([a0] : List Int)) (inner := [.int .i64 a0]) (ok := fun _ => True) (okp := fun _ => True) ?hr ?hp (fun _ hk => hk) trivial (Below.refl _ _) (Nat.le_refl _) (by simp) ?_; (case hd => rfl); (case hg => rfl); (case hr => first | (go_simp; done) | (go_simp; rfl)); (case hp => exact (Reps.one (show Kd.M (Kd.int .i64) _ _ _ a0 [.int .i64 a0] from rfl) (Reps.none _ _))); intro v194 w17 ho18 hb hg_ hnew_; clear hg_ hnew_; (first | rw [← Ny193.out] at ho18 | (simp only [Int.reduceToNat] at ho18; rw [← Ny193.out] at ho18)); have n0_ := Aside0.mk (Kd.R_lower ho18 (below_size (by repeat (first | (with_reducible first | exact HB.out | apply below_alloc | apply pw_below_drewN | apply below_drew1) | exact HB.out)))); have n1_ := Aside0.mk (below_step (by repeat (first | (with_reducible first | exact HB.out | apply below_alloc | apply pw_below_drewN | apply below_drew1) | exact HB.out)) hb); clear HB; have HO195 := n0_; have HB := n1_; clear n0_ n1_; clear hb ho18))
        go_loopg [9, 10] kj4 (fun kq v9 v10 w' => ∃ (x9_2 : List Int) (x10_2 : Int), v10 = .int .i64 x10_2 ∧ Aside0 (wisplaw01_NumAll.l0 kq a2 a3 x9_2 x10_2 = some r) ∧ Aside0 (kq ≤ kj4) ∧ Aside0 (Kd.R (Kd.int .i64) 3 w' w.heap.size (fun _ => True) v9 x9_2) ∧ Aside0 (Below w.heap.size w w'))
        case atStart => exact ⟨(y193), ((-1)), (by first | rfl | (simp; done) | (simp [*]; done)), H', ⟨Nat.le_refl _⟩, ⟨by (with_reducible repeat (first | apply Kd.R_alloc | apply Kd.R_drewN | apply Kd.R_drew)); exact HO195.out⟩, ⟨by repeat (first | (with_reducible first | exact HB.out | apply below_alloc | apply pw_below_drewN | apply below_drew1) | exact HB.out)⟩⟩
        case round =>
          clear H'
          try clear c1
          try clear p2
          try clear c4
          try clear c8
          try clear c8b0
          try clear c8b1
          try clear c10
          try clear c11
          try clear c11b0
          try clear c11b1
          try clear c14
          try clear c14b0
          try clear c14b1
          try clear c16
          try clear p2
          obtain ⟨x9_2, x10_2, rfl, HA, HK2, HO_9, HB⟩ := hrel
          cases gk with
          | zero => exact absurd HA.out (by simp [wisplaw01_NumAll.l0])
          | succ k2 =>
            have H := HA.out
            clear HA
            simp only [wisplaw01_NumAll.l0] at H
            by_cases c19 : x10_2 < 66
            · rw [if_pos c19] at H
              have c19b0 : decide (x10_2 < 66) = true := decide_eq_true c19
              clear c19
              by_cases c20 : x9_2.length < 17592186044416
              · rw [if_pos c20] at H
                have LMc20 := Aside0.mk c20
                clear c20
                obtain ⟨y196, hy196⟩ : ∃ y_ : List Int, y_ = (x9_2 ++ [x10_2]) := ⟨_, rfl⟩
                replace H : (wisplaw01_NumAll.l0 k2 a2 a3 y196 (wrap64 (x10_2 + 1))) = some r := by first | (rw [hy196]; with_reducible exact H) | (have H2_ := (Option.bind_some _ _).symm.trans H; rw [hy196]; with_reducible exact H2_) | (have H2_ := (Option.bind_some _ _).symm.trans H; with_reducible exact H2_) | with_reducible exact H | (rw [hy196]; exact H) | exact H
                have Ny196 := Aside0.mk hy196
                clear hy196
                have H' := Aside0.mk H
                clear H
                go_wp2_with (first | ((with_reducible refine gate_builtin (b := .append) (xs := #[.tmp 47, .tmp 49]) rfl ?_); at_builtin; refine Kd.R_append (Kd.int .i64) (w0 := w) w.heap.size rfl (.tmp 47) (.tmp 49) 30 3 (.int .i64 0) 8 rfl Try.underlying30 info3 rfl (by decide) (by omega) u9 x9_2 x10_2 [.int .i64 x10_2] (fun _ => True) (fun _ => False) rfl rfl ?aP (fun _ hk => hk.elim) ?aF ?aO ?aB ?aS ?aL ?_; (case aP => exact rfl); (case aB => exact (by repeat (first | (with_reducible first | exact HB.out | apply below_alloc | apply pw_below_drewN | apply below_drew1) | exact HB.out))); (case aF => exact (fun _ _ => trivial)); (case aO => exact (by (with_reducible repeat (first | apply Kd.R_alloc | apply Kd.R_drewN | apply Kd.R_drew)); exact HO_9.out)); (case aS => exact (below_size (by repeat (first | (with_reducible first | exact HB.out | apply below_alloc | apply pw_below_drewN | apply below_drew1) | exact HB.out)))); (case aL => have := LMc20.out; omega); intro v197 w21 ho hb hg hat; rw [← Ny196.out] at ho; have n0_ := Aside0.mk (hb); have n1_ := Aside0.mk (ho); clear HB; clear HO_9; have HB := n0_; have HO198 := n1_; clear n0_ n1_; clear ho hb hg hat))
                go_roundg k2
                case measure => have := HJ4.out; have := HK2.out; omega
                case rel => exact ⟨(y196), (wrap64 (x10_2 + 1)), (by first | rfl | (simp; done) | (simp [*]; done)), H', ⟨by have := HJ4.out; have := HK2.out; omega⟩, ⟨by (with_reducible repeat (first | apply Kd.R_alloc | apply Kd.R_drewN | apply Kd.R_drew)); exact HO198.out⟩, ⟨by repeat (first | (with_reducible first | exact HB.out | apply below_alloc | apply pw_below_drewN | apply below_drew1) | exact HB.out)⟩⟩
              · rw [if_neg c20] at H
                exact absurd H (by simp)
            · rw [if_neg c19] at H
              have c19b0 : decide (x10_2 < 66) = false := decide_eq_false c19
              clear c19
              have H' := Aside0.mk H
              clear H
              go_wp2
              go_loopg [11] k2 (fun kq v11 w' => ∃ (x11_3 : Int), v11 = .int .i64 x11_3 ∧ Aside0 (wisplaw01_NumAll.l1 kq a2 a3 x9_2 x11_3 = some r) ∧ Aside0 (kq ≤ k2) ∧ Aside0 (Kd.R (Kd.int .i64) 3 w' w.heap.size (fun _ => True) u9 x9_2) ∧ Aside0 (Below w.heap.size w w'))
              case atStart => exact ⟨(0), (by first | rfl | (simp; done) | (simp [*]; done)), H', ⟨Nat.le_refl _⟩, ⟨by (with_reducible repeat (first | apply Kd.R_alloc | apply Kd.R_drewN | apply Kd.R_drew)); exact HO_9.out⟩, ⟨by repeat (first | (with_reducible first | exact HB.out | apply below_alloc | apply pw_below_drewN | apply below_drew1) | exact HB.out)⟩⟩
              case round =>
                clear H'
                try clear c1
                try clear c2
                try clear p2
                try clear c4
                try clear p6
                try clear c8
                try clear c8b0
                try clear c8b1
                try clear c10
                try clear c11
                try clear c11b0
                try clear c11b1
                try clear c14
                try clear c14b0
                try clear c14b1
                try clear c16
                try clear c19
                try clear c19b0
                try clear c20
                try clear p2
                obtain ⟨x11_3, rfl, HA, HK3, HO_9, HB⟩ := hrel
                cases gk with
                | zero => exact absurd HA.out (by simp [wisplaw01_NumAll.l1])
                | succ k3 =>
                  have H := HA.out
                  clear HA
                  simp only [wisplaw01_NumAll.l1] at H
                  by_cases c22 : x11_3 < (x9_2.length : Int)
                  · rw [if_pos c22] at H
                    have c22b0 : decide (x11_3 < (x9_2.length : Int)) = true := decide_eq_true c22
                    clear c22
                    by_cases c23 : 0 ≤ x11_3
                    · rw [if_pos c23] at H
                      have c23b0 : decide (0 ≤ x11_3) = true := decide_eq_true c23
                      clear c23
                      replace H := Option.bind_eq_some_iff.mp H
                      obtain ⟨⟨t200, t201⟩, A240, H⟩ := H
                      replace H : ((wispref01_Unary.f (rd x9_2 x11_3) a2).bind fun bt203 => (if t200 = bt203.1 then (wisplaw01_NumAll.j3 k3 a2 a3 x9_2 x11_3 (t201 != bt203.2)) else (wisplaw01_NumAll.j3 k3 a2 a3 x9_2 x11_3 true))) = some r := H
                      have A24 := Aside0.mk A240
                      clear A240
                      replace H := Option.bind_eq_some_iff.mp H
                      obtain ⟨⟨t203, t204⟩, A250, H⟩ := H
                      replace H : (if t200 = t203 then (wisplaw01_NumAll.j3 k3 a2 a3 x9_2 x11_3 (t201 != t204)) else (wisplaw01_NumAll.j3 k3 a2 a3 x9_2 x11_3 true)) = some r := H
                      have A25 := Aside0.mk A250
                      clear A250
                      have HC26 := Aside0.mk H
                      clear H
                      obtain ⟨Ao27, co27, eo27⟩ := Kd.R_slice HO_9.out
                      subst eo27
                      have p199 : 0 ≤ (x11_3 : Int) := of_decide_eq_true (by first | (with_reducible assumption) | assumption)
                      have q199 : x11_3 < (x9_2.length : Int) := of_decide_eq_true (by first | (with_reducible assumption) | assumption)
                      obtain ⟨ad199, e199, hx199_0⟩ := Kd.at_int (Kd.R_reads' HO_9.out).2.2 x11_3 p199 q199
                      cases e199
                      replace p199 := eq_true p199
                      replace q199 := eq_true q199
                      go_upto_region 13 with (first | ((with_reducible refine gate_callee (f := 8) rfl ?_); refine goesL_ (some 63) rfl rfl Try.func8 (by kernel_rfl) rfl #[.int .i64 (rd x9_2 x11_3), .int .u16 a2] rfl (by (try simp only [List.map_toArray, List.map_cons, List.map_nil]); first | done | rfl | (simp only [List.length_drop, List.length_take]; rfl)) ?_; (with_reducible refine (num_Unary.calls (rd x9_2 x11_3) a2 t200 t201 _ A24.out).mono ?_); rintro e w' ⟨rfl, ⟨nd, rfl⟩⟩; refine ⟨_, rfl, ?_⟩; have p202 : 0 ≤ (x11_3 : Int) := of_decide_eq_true (by first | (with_reducible assumption) | assumption); have q202 : x11_3 < (x9_2.length : Int) := of_decide_eq_true (by first | (with_reducible assumption) | assumption); obtain ⟨ad202, e202, hx202_0⟩ := Kd.at_int (Kd.R_reads' HO_9.out).2.2 x11_3 p202 q202; obtain rfl : ad199 = ad202 := (by injection e202); replace p202 := eq_true p202; replace q202 := eq_true q202) | ((with_reducible refine gate_callee (f := 16) rfl ?_); refine goesL_ (some 72) rfl rfl Try.func16 (by kernel_rfl) rfl #[.int .i64 (rd x9_2 x11_3), .int .u16 a2] rfl (by (try simp only [List.map_toArray, List.map_cons, List.map_nil]); first | done | rfl | (simp only [List.length_drop, List.length_take]; rfl)) ?_; (with_reducible refine (wispref01_Unary.calls (rd x9_2 x11_3) a2 t203 t204 _ A25.out).mono ?_); rintro e w' ⟨rfl, ⟨nd, rfl⟩⟩; refine ⟨_, rfl, ?_⟩))
                      (try simp only [Act.put, List.setIfInBounds_toArray, List.set_cons_zero, List.set_cons_succ])
                      go_cut [82] (fun v82 wc => ∃ (kq : Nat) (x82_25 : Bool), v82 = .bool x82_25 ∧ Aside0 (wisplaw01_NumAll.j3 kq a2 a3 x9_2 x11_3 x82_25 = some r) ∧ Aside0 (kq ≤ k3) ∧ Aside0 (Kd.R (Kd.int .i64) 3 wc w.heap.size (fun _ => True) (.slice (some ad199) x9_2.length co27) x9_2) ∧ Aside0 (Below w.heap.size w wc))
                      case first =>
                        have H := HC26.out
                        clear HC26
                        by_cases c28 : t200 = t203
                        · rw [if_pos c28] at H
                          have c28b0 : (t200 == t203) = true := beq_iff_eq.mpr c28
                          have c28b1 : (t200 != t203) = false := bne_eq_false_iff_eq.mpr c28
                          clear c28
                          (first | rw [c28b0] | (simp only [i64_w, i32_w]; rw [c28b0]) | skip)
                          have H' := Aside0.mk H
                          clear H
                          go_wp2
                          go_meet
                          case rel => exact ⟨_, ((t201 != t204)), (by first | rfl | (simp; done) | (simp [*]; done)), H', ⟨by have := HJ4.out; have := HK2.out; have := HK3.out; first | omega | exact Nat.le_refl _⟩, ⟨by (with_reducible repeat (first | apply Kd.R_alloc | apply Kd.R_drewN | apply Kd.R_drew)); exact HO_9.out⟩, ⟨by repeat (first | (with_reducible first | exact HB.out | apply below_alloc | apply pw_below_drewN | apply below_drew1) | exact HB.out)⟩⟩
                        · rw [if_neg c28] at H
                          have c28b0 : (t200 == t203) = false := beq_eq_false_iff_ne.mpr c28
                          have c28b1 : (t200 != t203) = true := bne_iff_ne.mpr c28
                          (first | rw [c28b0] | (simp only [i64_w, i32_w]; rw [c28b0]) | skip)
                          have H' := Aside0.mk H
                          clear H
                          go_wp2
                          go_meet
                          case rel => exact ⟨_, (true), (by first | rfl | (simp; done) | (simp [*]; done)), H', ⟨by have := HJ4.out; have := HK2.out; have := HK3.out; first | omega | exact Nat.le_refl _⟩, ⟨by (with_reducible repeat (first | apply Kd.R_alloc | apply Kd.R_drewN | apply Kd.R_drew)); exact HO_9.out⟩, ⟨by repeat (first | (with_reducible first | exact HB.out | apply below_alloc | apply pw_below_drewN | apply below_drew1) | exact HB.out)⟩⟩
                      case rest =>
                        clear HC26
                        try clear c1
                        try clear p1
                        try clear q1
                        try clear hx1
                        try clear c2
                        try clear p2
                        try clear q2
                        try clear hx2
                        try clear c4
                        try clear p6
                        try clear c8
                        try clear c8b0
                        try clear c8b1
                        try clear c10
                        try clear c11
                        try clear c11b0
                        try clear c11b1
                        try clear c14
                        try clear c14b0
                        try clear c14b1
                        try clear c16
                        try clear c19
                        try clear c19b0
                        try clear p19
                        try clear q19
                        try clear hx19
                        try clear c20
                        try clear p20
                        try clear q20
                        try clear hx20
                        try clear c22
                        try clear c22b0
                        try clear c23
                        try clear c23b0
                        try clear c28
                        try clear c28b0
                        try clear c28b1
                        try clear hx199_0
                        try clear hx202_0
                        try clear p199
                        try clear p2
                        try clear p202
                        try clear p6
                        try clear q199
                        try clear q202
                        obtain ⟨kq, x82_25, rfl, HA, HJ25, HO_9, HB⟩ := hcut
                        cases kq with
                        | zero => exact absurd HA.out (by simp [wisplaw01_NumAll.j3])
                        | succ kj25 =>
                          have H := HA.out
                          clear HA
                          simp only [wisplaw01_NumAll.j3] at H
                          by_cases c29 : x82_25 = true
                          · subst c29
                            have H1 : (some false) = some r := by rw [if_pos rfl] at H; exact H
                            clear H
                            have H := H1
                            clear H1
                            obtain rfl := Option.some.inj H
                            go_wp2
                            go_ret
                            exact ⟨by first | rfl | (simp [errW_none, errW_some] <;> rfl) | (simp [*, errW_none, errW_some] <;> rfl), by repeat (first | (with_reducible first | exact HB.out | apply below_alloc | apply pw_below_drewN | apply below_drew1) | exact HB.out)⟩
                          · replace c29 := Bool.eq_false_iff.mpr c29
                            subst c29
                            have H1 : (if 0 ≤ x11_3 then (if x11_3 < (x9_2.length : Int) then ((num_Binary.f kj25 (rd x9_2 x11_3) a2 a3).bind fun bt206 => ((wispref01_Binary.f kj25 (rd x9_2 x11_3) a2 a3).bind fun bt209 => (if bt206.1 = bt209.1 then (if (bt206.2 != bt209.2) = true then (some false) else (wisplaw01_NumAll.l1 kj25 a2 a3 x9_2 (wrap64 (x11_3 + 1)))) else (some false)))) else (none)) else (none)) = some r := by rw [if_neg (show ¬ (false = true) by decide)] at H; exact H
                            clear H
                            have H := H1
                            clear H1
                            by_cases c30 : 0 ≤ x11_3
                            · rw [if_pos c30] at H
                              have c30b0 : decide (0 ≤ x11_3) = true := decide_eq_true c30
                              clear c30
                              by_cases c31 : x11_3 < (x9_2.length : Int)
                              · rw [if_pos c31] at H
                                have c31b0 : decide (x11_3 < (x9_2.length : Int)) = true := decide_eq_true c31
                                clear c31
                                replace H := Option.bind_eq_some_iff.mp H
                                obtain ⟨⟨t206, t207⟩, A320, H⟩ := H
                                replace H : ((wispref01_Binary.f kj25 (rd x9_2 x11_3) a2 a3).bind fun bt209 => (if t206 = bt209.1 then (if (t207 != bt209.2) = true then (some false) else (wisplaw01_NumAll.l1 kj25 a2 a3 x9_2 (wrap64 (x11_3 + 1)))) else (some false))) = some r := H
                                have A32 := Aside0.mk A320
                                clear A320
                                replace H := Option.bind_eq_some_iff.mp H
                                obtain ⟨⟨t209, t210⟩, A330, H⟩ := H
                                replace H : (if t206 = t209 then (if (t207 != t210) = true then (some false) else (wisplaw01_NumAll.l1 kj25 a2 a3 x9_2 (wrap64 (x11_3 + 1)))) else (some false)) = some r := H
                                have A33 := Aside0.mk A330
                                clear A330
                                by_cases c34 : t206 = t209
                                · rw [if_pos c34] at H
                                  have c34b0 : (t206 == t209) = true := beq_iff_eq.mpr c34
                                  have c34b1 : (t206 != t209) = false := bne_eq_false_iff_eq.mpr c34
                                  clear c34
                                  by_cases c35 : (t207 != t210) = true
                                  · rw [if_pos c35] at H
                                    have c35b0 : (t207 != t210) = true := c35
                                    (try (have c35b1 : decide (t207 = t210) = false := by simpa using c35))
                                    (try (have c35b2 : (t207 == t210) = false := by simpa using c35))
                                    (try (have c35b3 : ¬ (t207 = t210) := by simpa using c35))
                                    clear c35
                                    obtain rfl := Option.some.inj H
                                    have p205 : 0 ≤ (x11_3 : Int) := of_decide_eq_true (by first | (with_reducible assumption) | assumption)
                                    have q205 : x11_3 < (x9_2.length : Int) := of_decide_eq_true (by first | (with_reducible assumption) | assumption)
                                    obtain ⟨ad205, e205, hx205_0⟩ := Kd.at_int (Kd.R_reads' HO_9.out).2.2 x11_3 p205 q205
                                    obtain rfl : ad199 = ad205 := (by injection e205)
                                    replace p205 := eq_true p205
                                    replace q205 := eq_true q205
                                    go_wp2_with (first | ((with_reducible refine gate_callee (f := 7) rfl ?_); refine goesL_ (some 90) rfl rfl Try.func7 (by kernel_rfl) rfl #[.int .i64 (rd x9_2 x11_3), .int .u16 a2, .int .u16 a3] rfl (by (try simp only [List.map_toArray, List.map_cons, List.map_nil]); first | done | rfl | (simp only [List.length_drop, List.length_take]; rfl)) ?_; (with_reducible refine (num_Binary.calls kj25 (rd x9_2 x11_3) a2 a3 t206 t207 _ A32.out).mono ?_); rintro e w' ⟨rfl, ⟨nd, rfl⟩⟩; refine ⟨_, rfl, ?_⟩; have p208 : 0 ≤ (x11_3 : Int) := of_decide_eq_true (by first | (with_reducible assumption) | assumption); have q208 : x11_3 < (x9_2.length : Int) := of_decide_eq_true (by first | (with_reducible assumption) | assumption); obtain ⟨ad208, e208, hx208_0⟩ := Kd.at_int (Kd.R_reads' HO_9.out).2.2 x11_3 p208 q208; obtain rfl : ad199 = ad208 := (by injection e208); replace p208 := eq_true p208; replace q208 := eq_true q208) | ((with_reducible refine gate_callee (f := 17) rfl ?_); refine goesL_ (some 100) rfl rfl Try.func17 (by kernel_rfl) rfl #[.int .i64 (rd x9_2 x11_3), .int .u16 a2, .int .u16 a3] rfl (by (try simp only [List.map_toArray, List.map_cons, List.map_nil]); first | done | rfl | (simp only [List.length_drop, List.length_take]; rfl)) ?_; (with_reducible refine (wispref01_Binary.calls kj25 (rd x9_2 x11_3) a2 a3 t209 t210 _ A33.out).mono ?_); rintro e w36 ⟨rfl, hb⟩; refine ⟨_, rfl, ?_⟩; have n0_ := Aside0.mk (Kd.R_below (by (with_reducible repeat (first | apply Kd.R_alloc | apply Kd.R_drewN | apply Kd.R_drew)); exact HO_9.out) hb); have n1_ := Aside0.mk (below_step (by repeat (first | (with_reducible first | exact HB.out | apply below_alloc | apply pw_below_drewN | apply below_drew1) | exact HB.out)) hb); clear HO_9; clear HB; have HO_9 := n0_; have HB := n1_; clear n0_ n1_; (try clear hb); (try clear hb2); (try clear hk); (try clear hi)))
                                    go_ret
                                    exact ⟨by first | rfl | (simp [errW_none, errW_some] <;> rfl) | (simp [*, errW_none, errW_some] <;> rfl), by repeat (first | (with_reducible first | exact HB.out | apply below_alloc | apply pw_below_drewN | apply below_drew1) | exact HB.out)⟩
                                  · rw [if_neg c35] at H
                                    have c35b0 : (t207 != t210) = false := by simpa using c35
                                    (try (have c35b1 : decide (t207 = t210) = true := by simpa using c35))
                                    (try (have c35b2 : (t207 == t210) = true := by simpa using c35))
                                    clear c35
                                    have H' := Aside0.mk H
                                    clear H
                                    have p205 : 0 ≤ (x11_3 : Int) := of_decide_eq_true (by first | (with_reducible assumption) | assumption)
                                    have q205 : x11_3 < (x9_2.length : Int) := of_decide_eq_true (by first | (with_reducible assumption) | assumption)
                                    obtain ⟨ad205, e205, hx205_0⟩ := Kd.at_int (Kd.R_reads' HO_9.out).2.2 x11_3 p205 q205
                                    obtain rfl : ad199 = ad205 := (by injection e205)
                                    replace p205 := eq_true p205
                                    replace q205 := eq_true q205
                                    go_wp2_with (first | ((with_reducible refine gate_callee (f := 7) rfl ?_); refine goesL_ (some 90) rfl rfl Try.func7 (by kernel_rfl) rfl #[.int .i64 (rd x9_2 x11_3), .int .u16 a2, .int .u16 a3] rfl (by (try simp only [List.map_toArray, List.map_cons, List.map_nil]); first | done | rfl | (simp only [List.length_drop, List.length_take]; rfl)) ?_; (with_reducible refine (num_Binary.calls kj25 (rd x9_2 x11_3) a2 a3 t206 t207 _ A32.out).mono ?_); rintro e w' ⟨rfl, ⟨nd, rfl⟩⟩; refine ⟨_, rfl, ?_⟩; have p208 : 0 ≤ (x11_3 : Int) := of_decide_eq_true (by first | (with_reducible assumption) | assumption); have q208 : x11_3 < (x9_2.length : Int) := of_decide_eq_true (by first | (with_reducible assumption) | assumption); obtain ⟨ad208, e208, hx208_0⟩ := Kd.at_int (Kd.R_reads' HO_9.out).2.2 x11_3 p208 q208; obtain rfl : ad199 = ad208 := (by injection e208); replace p208 := eq_true p208; replace q208 := eq_true q208) | ((with_reducible refine gate_callee (f := 17) rfl ?_); refine goesL_ (some 100) rfl rfl Try.func17 (by kernel_rfl) rfl #[.int .i64 (rd x9_2 x11_3), .int .u16 a2, .int .u16 a3] rfl (by (try simp only [List.map_toArray, List.map_cons, List.map_nil]); first | done | rfl | (simp only [List.length_drop, List.length_take]; rfl)) ?_; (with_reducible refine (wispref01_Binary.calls kj25 (rd x9_2 x11_3) a2 a3 t209 t210 _ A33.out).mono ?_); rintro e w37 ⟨rfl, hb⟩; refine ⟨_, rfl, ?_⟩; have n0_ := Aside0.mk (Kd.R_below (by (with_reducible repeat (first | apply Kd.R_alloc | apply Kd.R_drewN | apply Kd.R_drew)); exact HO_9.out) hb); have n1_ := Aside0.mk (below_step (by repeat (first | (with_reducible first | exact HB.out | apply below_alloc | apply pw_below_drewN | apply below_drew1) | exact HB.out)) hb); clear HO_9; clear HB; have HO_9 := n0_; have HB := n1_; clear n0_ n1_; (try clear hb); (try clear hb2); (try clear hk); (try clear hi)))
                                    go_roundg kj25
                                    case measure => have := HJ4.out; have := HK2.out; have := HK3.out; have := HJ25.out; omega
                                    case rel => exact ⟨(wrap64 (x11_3 + 1)), (by first | rfl | (simp; done) | (simp [*]; done)), H', ⟨by have := HJ4.out; have := HK2.out; have := HK3.out; have := HJ25.out; omega⟩, ⟨by (with_reducible repeat (first | apply Kd.R_alloc | apply Kd.R_drewN | apply Kd.R_drew)); exact HO_9.out⟩, ⟨by repeat (first | (with_reducible first | exact HB.out | apply below_alloc | apply pw_below_drewN | apply below_drew1) | exact HB.out)⟩⟩
                                · rw [if_neg c34] at H
                                  have c34b0 : (t206 == t209) = false := beq_eq_false_iff_ne.mpr c34
                                  have c34b1 : (t206 != t209) = true := bne_iff_ne.mpr c34
                                  obtain rfl := Option.some.inj H
                                  have p205 : 0 ≤ (x11_3 : Int) := of_decide_eq_true (by first | (with_reducible assumption) | assumption)
                                  have q205 : x11_3 < (x9_2.length : Int) := of_decide_eq_true (by first | (with_reducible assumption) | assumption)
                                  obtain ⟨ad205, e205, hx205_0⟩ := Kd.at_int (Kd.R_reads' HO_9.out).2.2 x11_3 p205 q205
                                  obtain rfl : ad199 = ad205 := (by injection e205)
                                  replace p205 := eq_true p205
                                  replace q205 := eq_true q205
                                  go_wp2_with (first | ((with_reducible refine gate_callee (f := 7) rfl ?_); refine goesL_ (some 90) rfl rfl Try.func7 (by kernel_rfl) rfl #[.int .i64 (rd x9_2 x11_3), .int .u16 a2, .int .u16 a3] rfl (by (try simp only [List.map_toArray, List.map_cons, List.map_nil]); first | done | rfl | (simp only [List.length_drop, List.length_take]; rfl)) ?_; (with_reducible refine (num_Binary.calls kj25 (rd x9_2 x11_3) a2 a3 t206 t207 _ A32.out).mono ?_); rintro e w' ⟨rfl, ⟨nd, rfl⟩⟩; refine ⟨_, rfl, ?_⟩; have p208 : 0 ≤ (x11_3 : Int) := of_decide_eq_true (by first | (with_reducible assumption) | assumption); have q208 : x11_3 < (x9_2.length : Int) := of_decide_eq_true (by first | (with_reducible assumption) | assumption); obtain ⟨ad208, e208, hx208_0⟩ := Kd.at_int (Kd.R_reads' HO_9.out).2.2 x11_3 p208 q208; obtain rfl : ad199 = ad208 := (by injection e208); replace p208 := eq_true p208; replace q208 := eq_true q208) | ((with_reducible refine gate_callee (f := 17) rfl ?_); refine goesL_ (some 100) rfl rfl Try.func17 (by kernel_rfl) rfl #[.int .i64 (rd x9_2 x11_3), .int .u16 a2, .int .u16 a3] rfl (by (try simp only [List.map_toArray, List.map_cons, List.map_nil]); first | done | rfl | (simp only [List.length_drop, List.length_take]; rfl)) ?_; (with_reducible refine (wispref01_Binary.calls kj25 (rd x9_2 x11_3) a2 a3 t209 t210 _ A33.out).mono ?_); rintro e w38 ⟨rfl, hb⟩; refine ⟨_, rfl, ?_⟩; have n0_ := Aside0.mk (Kd.R_below (by (with_reducible repeat (first | apply Kd.R_alloc | apply Kd.R_drewN | apply Kd.R_drew)); exact HO_9.out) hb); have n1_ := Aside0.mk (below_step (by repeat (first | (with_reducible first | exact HB.out | apply below_alloc | apply pw_below_drewN | apply below_drew1) | exact HB.out)) hb); clear HO_9; clear HB; have HO_9 := n0_; have HB := n1_; clear n0_ n1_; (try clear hb); (try clear hb2); (try clear hk); (try clear hi)))
                                  go_ret
                                  exact ⟨by first | rfl | (simp [errW_none, errW_some] <;> rfl) | (simp [*, errW_none, errW_some] <;> rfl), by repeat (first | (with_reducible first | exact HB.out | apply below_alloc | apply pw_below_drewN | apply below_drew1) | exact HB.out)⟩
                              · rw [if_neg c31] at H
                                exact absurd H (by simp)
                            · rw [if_neg c30] at H
                              exact absurd H (by simp)
                    · rw [if_neg c23] at H
                      exact absurd H (by simp)
                  · rw [if_neg c22] at H
                    have c22b0 : decide (x11_3 < (x9_2.length : Int)) = false := decide_eq_false c22
                    clear c22
                    obtain rfl := Option.some.inj H
                    obtain ⟨Ao39, co39, eo39⟩ := Kd.R_slice HO_9.out
                    subst eo39
                    go_wp2
                    go_ret
                    exact ⟨by first | rfl | (simp [errW_none, errW_some] <;> rfl) | (simp [*, errW_none, errW_some] <;> rfl), by repeat (first | (with_reducible first | exact HB.out | apply below_alloc | apply pw_below_drewN | apply below_drew1) | exact HB.out)⟩

/-- THE ONE PURE STATEMENT of wisplaw01_NumAll: yours. -/
def wisplaw01_NumAll.Pure : Prop := ∀ (a0 : Int) (a1 : Int) (a2 : Int) (a3 : Int), (Lit.int .i64 a0).wf = true → (Lit.int .i64 a1).wf = true → (Lit.int .u16 a2).wf = true → (Lit.int .u16 a3).wf = true → ∃ k, wisplaw01_NumAll.f k a0 a1 a2 a3 = some true
theorem wisplaw01_NumAll.walk (P : wisplaw01_NumAll.Pure) (a0 : Int) (a1 : Int) (a2 : Int) (a3 : Int) (w : World) (w0 : (Lit.int .i64 a0).wf = true) (w1 : (Lit.int .i64 a1).wf = true) (w2 : (Lit.int .u16 a2).wf = true) (w3 : (Lit.int .u16 a3).wf = true) :
    Calls Try.prog 4 #[.int .i64 a0, .int .i64 a1, .int .u16 a2, .int .u16 a3] w fun e w' => e = .returned (.bool true) ∧ Below w.heap.size w w' := by
  obtain ⟨k, h⟩ := P a0 a1 a2 a3 w0 w1 w2 w3
  refine (wisplaw01_NumAll.calls k a0 a1 a2 a3 true w h).mono ?_
  rintro e w' ⟨rfl, hd⟩
  exact ⟨rfl, hd⟩

/-! ### wisplaw01_two: function 18 -/
def wisplaw01_two.f (k : Nat) (a0 : Int) (a1 : Int) (a2 : Int) : Option (Int) := (num_Binary.f k a0 a1 a2).bind fun bt211 => (some bt211.1)
theorem wisplaw01_two.mono : ∀ a0 a1 a2 k, LeO (wisplaw01_two.f k a0 a1 a2) (wisplaw01_two.f (k + 1) a0 a1 a2) := by
  intro a0 a1 a2 k
  unfold wisplaw01_two.f
  repeat' first
      | (with_reducible exact num_Binary.mono _ _ _ _)
      | (with_reducible exact LeO.refl _)
      | (with_reducible exact LeO.none _)
      | (with_reducible refine LeO.ite ?_ ?_)
      | (with_reducible refine LeO.bind ?_ (fun _ => ?_))
      | exact num_Binary.mono _ _ _ _
      | exact LeO.none _
      | refine LeO.ite ?_ ?_
      | refine LeO.bind ?_ (fun _ => ?_)
set_option maxHeartbeats 8000000 in
set_option maxRecDepth 100000 in
theorem wisplaw01_two.calls (k : Nat) (a0 : Int) (a1 : Int) (a2 : Int) (r : Int) (w : World) (h : wisplaw01_two.f k a0 a1 a2 = some r) :
    Calls Try.prog 18 #[.int .i64 a0, .int .u16 a1, .int .u16 a2] w fun e w' => e = .returned (.int .u16 r) ∧ Drawn0 w w' := by
  have H : ((num_Binary.f k a0 a1 a2).bind fun bt211 => (some bt211.1)) = some r := h
  clear h
  replace H := Option.bind_eq_some_iff.mp H
  obtain ⟨⟨t211, t212⟩, A40, H⟩ := H
  replace H : (some t211) = some r := H
  have A4 := Aside0.mk A40
  clear A40
  obtain rfl := Option.some.inj H
  go_enter Try.func18, Try.ntmps18
  go_wp2_with (first | ((with_reducible refine gate_callee (f := 7) rfl ?_); refine goesL_ (some 13) rfl rfl Try.func7 (by kernel_rfl) rfl #[.int .i64 a0, .int .u16 a1, .int .u16 a2] rfl (by (try simp only [List.map_toArray, List.map_cons, List.map_nil]); first | done | rfl | (simp only [List.length_drop, List.length_take]; rfl)) ?_; (with_reducible refine (num_Binary.calls k a0 a1 a2 t211 t212 _ A4.out).mono ?_); rintro e w' ⟨rfl, ⟨nd, rfl⟩⟩; refine ⟨_, rfl, ?_⟩))
  go_ret
  exact ⟨by first | rfl | (simp; done) | (simp [*]; done), by repeat (first | exact Drawn0.refl _ | apply Drawn0.step)⟩

/-! ### wisplaw01_one: function 19 -/
def wisplaw01_one.f (a0 : Int) (a1 : Int) : Option (Int) := (num_Unary.f a0 a1).bind fun bt213 => (some bt213.1)
set_option maxHeartbeats 8000000 in
set_option maxRecDepth 100000 in
theorem wisplaw01_one.calls (a0 : Int) (a1 : Int) (r : Int) (w : World) (h : wisplaw01_one.f a0 a1 = some r) :
    Calls Try.prog 19 #[.int .i64 a0, .int .u16 a1] w fun e w' => e = .returned (.int .u16 r) ∧ Drawn0 w w' := by
  have H : ((num_Unary.f a0 a1).bind fun bt213 => (some bt213.1)) = some r := h
  clear h
  replace H := Option.bind_eq_some_iff.mp H
  obtain ⟨⟨t213, t214⟩, A30, H⟩ := H
  replace H : (some t213) = some r := H
  have A3 := Aside0.mk A30
  clear A30
  obtain rfl := Option.some.inj H
  go_enter Try.func19, Try.ntmps19
  go_wp2_with (first | ((with_reducible refine gate_callee (f := 8) rfl ?_); refine goesL_ (some 10) rfl rfl Try.func8 (by kernel_rfl) rfl #[.int .i64 a0, .int .u16 a1] rfl (by (try simp only [List.map_toArray, List.map_cons, List.map_nil]); first | done | rfl | (simp only [List.length_drop, List.length_take]; rfl)) ?_; (with_reducible refine (num_Unary.calls a0 a1 t213 t214 _ A3.out).mono ?_); rintro e w' ⟨rfl, ⟨nd, rfl⟩⟩; refine ⟨_, rfl, ?_⟩))
  go_ret
  exact ⟨by first | rfl | (simp; done) | (simp [*]; done), by repeat (first | exact Drawn0.refl _ | apply Drawn0.step)⟩

end Go.Proofs.Ytgnjlgfnpfjjnaa.P
