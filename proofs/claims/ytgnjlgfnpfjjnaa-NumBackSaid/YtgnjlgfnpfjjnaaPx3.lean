/- Printed by a program of this session (it turns the kit's print): see wip/myprint. -/
import Derived.Test.YtgnjlgfnpfjjnaaPx0
import Derived.Test.YtgnjlgfnpfjjnaaPx2
namespace Go.Proofs.Ytgnjlgfnpfjjnaa.P
open Go.RowKit Go.Proofs.YtgnjlgfnpfjjnaaW.PrintWords Go.Proofs.YtgnjlgfnpfjjnaaW.PrintLast Go.Proofs.YtgnjlgfnpfjjnaaW.PrintMore Go.Proofs.Ytgnjlgfnpfjjnaa.Mine
attribute [local go_sem] max2_int min2_int max_two min_two max_three min_three max_four min_four   -- for this text's walks alone
set_option linter.unusedVariables false
set_option linter.unusedSimpArgs false

/-! ### wispref01_quotient: function 27 -/
def wispref01_quotient.f (a0 : Int) (a1 : Int) : Option (Int) := (wispref01_away.f a0).bind fun t156 => ((wispref01_away.f a1).bind fun t157 => (if t157 = 0 then (none) else (if ((decide (a0 < 0)) != (decide (a1 < 0))) = true then (some (wrap64 (-(wrap64 (Int.tdiv t156 t157))))) else (some (wrap64 (Int.tdiv t156 t157))))))
set_option maxHeartbeats 8000000 in
set_option maxRecDepth 100000 in
theorem wispref01_quotient.calls (a0 : Int) (a1 : Int) (r : Int) (w : World) (h : wispref01_quotient.f a0 a1 = some r) :
    Calls Try.prog 27 #[.int .i64 a0, .int .i64 a1] w fun e w' => e = .returned (.int .i64 r) ∧ Drawn0 w w' := by
  have H : ((wispref01_away.f a0).bind fun t156 => ((wispref01_away.f a1).bind fun t157 => (if t157 = 0 then (none) else (if ((decide (a0 < 0)) != (decide (a1 < 0))) = true then (some (wrap64 (-(wrap64 (Int.tdiv t156 t157))))) else (some (wrap64 (Int.tdiv t156 t157))))))) = some r := h
  clear h
  replace H := Option.bind_eq_some_iff.mp H
  obtain ⟨t156, A30, H⟩ := H
  replace H : ((wispref01_away.f a1).bind fun t157 => (if t157 = 0 then (none) else (if ((decide (a0 < 0)) != (decide (a1 < 0))) = true then (some (wrap64 (-(wrap64 (Int.tdiv t156 t157))))) else (some (wrap64 (Int.tdiv t156 t157)))))) = some r := H
  have A3 := Aside0.mk A30
  clear A30
  replace H := Option.bind_eq_some_iff.mp H
  obtain ⟨t157, A40, H⟩ := H
  replace H : (if t157 = 0 then (none) else (if ((decide (a0 < 0)) != (decide (a1 < 0))) = true then (some (wrap64 (-(wrap64 (Int.tdiv t156 t157))))) else (some (wrap64 (Int.tdiv t156 t157))))) = some r := H
  have A4 := Aside0.mk A40
  clear A40
  by_cases c5 : t157 = 0
  · rw [if_pos c5] at H
    exact absurd H (by simp)
  · rw [if_neg c5] at H
    have c5b0 : (t157 == 0) = false := beq_eq_false_iff_ne.mpr c5
    have c5b1 : (t157 != 0) = true := bne_iff_ne.mpr c5
    by_cases c6 : ((decide (a0 < 0)) != (decide (a1 < 0))) = true
    · rw [if_pos c6] at H
      have c6b0 : ((decide (a0 < 0)) != (decide (a1 < 0))) = true := c6
      (try (have c6b1 : decide ((decide (a0 < 0)) = (decide (a1 < 0))) = false := by simpa using c6))
      (try (have c6b2 : ((decide (a0 < 0)) == (decide (a1 < 0))) = false := by simpa using c6))
      (try (have c6b3 : ¬ ((decide (a0 < 0)) = (decide (a1 < 0))) := by simpa using c6))
      clear c6
      obtain rfl := Option.some.inj H
      go_enter Try.func27, Try.ntmps27
      go_wp2_with (first | ((with_reducible refine gate_callee (f := 28) rfl ?_); refine goesL_ (some 7) rfl rfl Try.func28 (by kernel_rfl) rfl #[.int .i64 a0] rfl (by (try simp only [List.map_toArray, List.map_cons, List.map_nil]); first | done | rfl | (simp only [List.length_drop, List.length_take]; rfl)) ?_; (with_reducible refine (wispref01_away.calls a0 t156 _ A3.out).mono ?_); rintro e w' ⟨rfl, ⟨nd, rfl⟩⟩; refine ⟨_, rfl, ?_⟩) | ((with_reducible refine gate_callee (f := 28) rfl ?_); refine goesL_ (some 9) rfl rfl Try.func28 (by kernel_rfl) rfl #[.int .i64 a1] rfl (by (try simp only [List.map_toArray, List.map_cons, List.map_nil]); first | done | rfl | (simp only [List.length_drop, List.length_take]; rfl)) ?_; (with_reducible refine (wispref01_away.calls a1 t157 _ A4.out).mono ?_); rintro e w' ⟨rfl, ⟨nd, rfl⟩⟩; refine ⟨_, rfl, ?_⟩))
      go_ret
      exact ⟨by first | rfl | (simp; done) | (simp [*]; done), by repeat (first | exact Drawn0.refl _ | apply Drawn0.step)⟩
    · rw [if_neg c6] at H
      have c6b0 : ((decide (a0 < 0)) != (decide (a1 < 0))) = false := by simpa using c6
      (try (have c6b1 : decide ((decide (a0 < 0)) = (decide (a1 < 0))) = true := by simpa using c6))
      (try (have c6b2 : ((decide (a0 < 0)) == (decide (a1 < 0))) = true := by simpa using c6))
      clear c6
      obtain rfl := Option.some.inj H
      go_enter Try.func27, Try.ntmps27
      go_wp2_with (first | ((with_reducible refine gate_callee (f := 28) rfl ?_); refine goesL_ (some 7) rfl rfl Try.func28 (by kernel_rfl) rfl #[.int .i64 a0] rfl (by (try simp only [List.map_toArray, List.map_cons, List.map_nil]); first | done | rfl | (simp only [List.length_drop, List.length_take]; rfl)) ?_; (with_reducible refine (wispref01_away.calls a0 t156 _ A3.out).mono ?_); rintro e w' ⟨rfl, ⟨nd, rfl⟩⟩; refine ⟨_, rfl, ?_⟩) | ((with_reducible refine gate_callee (f := 28) rfl ?_); refine goesL_ (some 9) rfl rfl Try.func28 (by kernel_rfl) rfl #[.int .i64 a1] rfl (by (try simp only [List.map_toArray, List.map_cons, List.map_nil]); first | done | rfl | (simp only [List.length_drop, List.length_take]; rfl)) ?_; (with_reducible refine (wispref01_away.calls a1 t157 _ A4.out).mono ?_); rintro e w' ⟨rfl, ⟨nd, rfl⟩⟩; refine ⟨_, rfl, ?_⟩))
      go_ret
      exact ⟨by first | rfl | (simp; done) | (simp [*]; done), by repeat (first | exact Drawn0.refl _ | apply Drawn0.step)⟩

/-! ### wispref01_divides: function 24 -/
def wispref01_divides.f (a0 : Int) (a1 : Int) (a2 : Int) : Option (Int) := (wispref01_Signed.f a1).bind fun t158 => ((wispref01_Signed.f a2).bind fun t159 => (if a0 = 24 then ((wispref01_quotient.f t158 t159).bind fun t160 => ((wispref01_Cell.f t160).bind fun t161 => (some t161))) else (if a0 = 25 then ((wispref01_quotient.f t158 t159).bind fun t162 => ((wispref01_Cell.f (wrap64 (t158 - (wrap64 (t162 * t159))))).bind fun t163 => (some t163))) else (if a0 = 26 then (if (wrap64 (a2)) = 0 then (none) else ((wispref01_Cell.f (wrap64 (Int.tdiv (wrap64 (a1)) (wrap64 (a2))))).bind fun t164 => (some t164))) else (if (wrap64 (a2)) = 0 then (none) else ((wispref01_Cell.f (wrap64 ((wrap64 (a1)) - (wrap64 ((wrap64 (Int.tdiv (wrap64 (a1)) (wrap64 (a2)))) * (wrap64 (a2))))))).bind fun t165 => (some t165)))))))
set_option maxHeartbeats 8000000 in
set_option maxRecDepth 100000 in
theorem wispref01_divides.calls (a0 : Int) (a1 : Int) (a2 : Int) (r : Int) (w : World) (h : wispref01_divides.f a0 a1 a2 = some r) :
    Calls Try.prog 24 #[.int .i64 a0, .int .u16 a1, .int .u16 a2] w fun e w' => e = .returned (.int .u16 r) ∧ Drawn0 w w' := by
  have H : ((wispref01_Signed.f a1).bind fun t158 => ((wispref01_Signed.f a2).bind fun t159 => (if a0 = 24 then ((wispref01_quotient.f t158 t159).bind fun t160 => ((wispref01_Cell.f t160).bind fun t161 => (some t161))) else (if a0 = 25 then ((wispref01_quotient.f t158 t159).bind fun t162 => ((wispref01_Cell.f (wrap64 (t158 - (wrap64 (t162 * t159))))).bind fun t163 => (some t163))) else (if a0 = 26 then (if (wrap64 (a2)) = 0 then (none) else ((wispref01_Cell.f (wrap64 (Int.tdiv (wrap64 (a1)) (wrap64 (a2))))).bind fun t164 => (some t164))) else (if (wrap64 (a2)) = 0 then (none) else ((wispref01_Cell.f (wrap64 ((wrap64 (a1)) - (wrap64 ((wrap64 (Int.tdiv (wrap64 (a1)) (wrap64 (a2)))) * (wrap64 (a2))))))).bind fun t165 => (some t165)))))))) = some r := h
  clear h
  replace H := Option.bind_eq_some_iff.mp H
  obtain ⟨t158, A40, H⟩ := H
  replace H : ((wispref01_Signed.f a2).bind fun t159 => (if a0 = 24 then ((wispref01_quotient.f t158 t159).bind fun t160 => ((wispref01_Cell.f t160).bind fun t161 => (some t161))) else (if a0 = 25 then ((wispref01_quotient.f t158 t159).bind fun t162 => ((wispref01_Cell.f (wrap64 (t158 - (wrap64 (t162 * t159))))).bind fun t163 => (some t163))) else (if a0 = 26 then (if (wrap64 (a2)) = 0 then (none) else ((wispref01_Cell.f (wrap64 (Int.tdiv (wrap64 (a1)) (wrap64 (a2))))).bind fun t164 => (some t164))) else (if (wrap64 (a2)) = 0 then (none) else ((wispref01_Cell.f (wrap64 ((wrap64 (a1)) - (wrap64 ((wrap64 (Int.tdiv (wrap64 (a1)) (wrap64 (a2)))) * (wrap64 (a2))))))).bind fun t165 => (some t165))))))) = some r := H
  have A4 := Aside0.mk A40
  clear A40
  replace H := Option.bind_eq_some_iff.mp H
  obtain ⟨t159, A50, H⟩ := H
  replace H : (if a0 = 24 then ((wispref01_quotient.f t158 t159).bind fun t160 => ((wispref01_Cell.f t160).bind fun t161 => (some t161))) else (if a0 = 25 then ((wispref01_quotient.f t158 t159).bind fun t162 => ((wispref01_Cell.f (wrap64 (t158 - (wrap64 (t162 * t159))))).bind fun t163 => (some t163))) else (if a0 = 26 then (if (wrap64 (a2)) = 0 then (none) else ((wispref01_Cell.f (wrap64 (Int.tdiv (wrap64 (a1)) (wrap64 (a2))))).bind fun t164 => (some t164))) else (if (wrap64 (a2)) = 0 then (none) else ((wispref01_Cell.f (wrap64 ((wrap64 (a1)) - (wrap64 ((wrap64 (Int.tdiv (wrap64 (a1)) (wrap64 (a2)))) * (wrap64 (a2))))))).bind fun t165 => (some t165)))))) = some r := H
  have A5 := Aside0.mk A50
  clear A50
  by_cases c6 : a0 = 24
  · rw [if_pos c6] at H
    have c6b0 : (a0 == 24) = true := beq_iff_eq.mpr c6
    have c6b1 : (a0 != 24) = false := bne_eq_false_iff_eq.mpr c6
    clear c6
    replace H := Option.bind_eq_some_iff.mp H
    obtain ⟨t160, A70, H⟩ := H
    replace H : ((wispref01_Cell.f t160).bind fun t161 => (some t161)) = some r := H
    have A7 := Aside0.mk A70
    clear A70
    replace H := Option.bind_eq_some_iff.mp H
    obtain ⟨t161, A80, H⟩ := H
    replace H : (some t161) = some r := H
    have A8 := Aside0.mk A80
    clear A80
    obtain rfl := Option.some.inj H
    go_enter Try.func24, Try.ntmps24
    go_wp2_with (first | ((with_reducible refine gate_callee (f := 11) rfl ?_); refine goesL_ (some 10) rfl rfl Try.func11 (by kernel_rfl) rfl #[.int .u16 a1] rfl (by (try simp only [List.map_toArray, List.map_cons, List.map_nil]); first | done | rfl | (simp only [List.length_drop, List.length_take]; rfl)) ?_; (with_reducible refine (wispref01_Signed.calls a1 t158 _ A4.out).mono ?_); rintro e w' ⟨rfl, ⟨nd, rfl⟩⟩; refine ⟨_, rfl, ?_⟩) | ((with_reducible refine gate_callee (f := 11) rfl ?_); refine goesL_ (some 12) rfl rfl Try.func11 (by kernel_rfl) rfl #[.int .u16 a2] rfl (by (try simp only [List.map_toArray, List.map_cons, List.map_nil]); first | done | rfl | (simp only [List.length_drop, List.length_take]; rfl)) ?_; (with_reducible refine (wispref01_Signed.calls a2 t159 _ A5.out).mono ?_); rintro e w' ⟨rfl, ⟨nd, rfl⟩⟩; refine ⟨_, rfl, ?_⟩) | ((with_reducible refine gate_callee (f := 27) rfl ?_); refine goesL_ (some 18) rfl rfl Try.func27 (by kernel_rfl) rfl #[.int .i64 t158, .int .i64 t159] rfl (by (try simp only [List.map_toArray, List.map_cons, List.map_nil]); first | done | rfl | (simp only [List.length_drop, List.length_take]; rfl)) ?_; (with_reducible refine (wispref01_quotient.calls t158 t159 t160 _ A7.out).mono ?_); rintro e w' ⟨rfl, ⟨nd, rfl⟩⟩; refine ⟨_, rfl, ?_⟩) | ((with_reducible refine gate_callee (f := 13) rfl ?_); refine goesL_ (some 19) rfl rfl Try.func13 (by kernel_rfl) rfl #[.int .i64 t160] rfl (by (try simp only [List.map_toArray, List.map_cons, List.map_nil]); first | done | rfl | (simp only [List.length_drop, List.length_take]; rfl)) ?_; (with_reducible refine (wispref01_Cell.calls t160 t161 _ A8.out).mono ?_); rintro e w' ⟨rfl, ⟨nd, rfl⟩⟩; refine ⟨_, rfl, ?_⟩))
    go_ret
    exact ⟨by first | rfl | (simp; done) | (simp [*]; done), by repeat (first | exact Drawn0.refl _ | apply Drawn0.step)⟩
  · rw [if_neg c6] at H
    have c6b0 : (a0 == 24) = false := beq_eq_false_iff_ne.mpr c6
    have c6b1 : (a0 != 24) = true := bne_iff_ne.mpr c6
    by_cases c9 : a0 = 25
    · rw [if_pos c9] at H
      have c9b0 : (a0 == 25) = true := beq_iff_eq.mpr c9
      have c9b1 : (a0 != 25) = false := bne_eq_false_iff_eq.mpr c9
      clear c9
      replace H := Option.bind_eq_some_iff.mp H
      obtain ⟨t162, A100, H⟩ := H
      replace H : ((wispref01_Cell.f (wrap64 (t158 - (wrap64 (t162 * t159))))).bind fun t163 => (some t163)) = some r := H
      have A10 := Aside0.mk A100
      clear A100
      replace H := Option.bind_eq_some_iff.mp H
      obtain ⟨t163, A110, H⟩ := H
      replace H : (some t163) = some r := H
      have A11 := Aside0.mk A110
      clear A110
      obtain rfl := Option.some.inj H
      go_enter Try.func24, Try.ntmps24
      go_wp2_with (first | ((with_reducible refine gate_callee (f := 11) rfl ?_); refine goesL_ (some 10) rfl rfl Try.func11 (by kernel_rfl) rfl #[.int .u16 a1] rfl (by (try simp only [List.map_toArray, List.map_cons, List.map_nil]); first | done | rfl | (simp only [List.length_drop, List.length_take]; rfl)) ?_; (with_reducible refine (wispref01_Signed.calls a1 t158 _ A4.out).mono ?_); rintro e w' ⟨rfl, ⟨nd, rfl⟩⟩; refine ⟨_, rfl, ?_⟩) | ((with_reducible refine gate_callee (f := 11) rfl ?_); refine goesL_ (some 12) rfl rfl Try.func11 (by kernel_rfl) rfl #[.int .u16 a2] rfl (by (try simp only [List.map_toArray, List.map_cons, List.map_nil]); first | done | rfl | (simp only [List.length_drop, List.length_take]; rfl)) ?_; (with_reducible refine (wispref01_Signed.calls a2 t159 _ A5.out).mono ?_); rintro e w' ⟨rfl, ⟨nd, rfl⟩⟩; refine ⟨_, rfl, ?_⟩) | ((with_reducible refine gate_callee (f := 27) rfl ?_); refine goesL_ (some 25) rfl rfl Try.func27 (by kernel_rfl) rfl #[.int .i64 t158, .int .i64 t159] rfl (by (try simp only [List.map_toArray, List.map_cons, List.map_nil]); first | done | rfl | (simp only [List.length_drop, List.length_take]; rfl)) ?_; (with_reducible refine (wispref01_quotient.calls t158 t159 t162 _ A10.out).mono ?_); rintro e w' ⟨rfl, ⟨nd, rfl⟩⟩; refine ⟨_, rfl, ?_⟩) | ((with_reducible refine gate_callee (f := 13) rfl ?_); refine goesL_ (some 29) rfl rfl Try.func13 (by kernel_rfl) rfl #[.int .i64 (wrap64 (t158 - (wrap64 (t162 * t159))))] rfl (by (try simp only [List.map_toArray, List.map_cons, List.map_nil]); first | done | rfl | (simp only [List.length_drop, List.length_take]; rfl)) ?_; (with_reducible refine (wispref01_Cell.calls (wrap64 (t158 - (wrap64 (t162 * t159)))) t163 _ A11.out).mono ?_); rintro e w' ⟨rfl, ⟨nd, rfl⟩⟩; refine ⟨_, rfl, ?_⟩))
      go_ret
      exact ⟨by first | rfl | (simp; done) | (simp [*]; done), by repeat (first | exact Drawn0.refl _ | apply Drawn0.step)⟩
    · rw [if_neg c9] at H
      have c9b0 : (a0 == 25) = false := beq_eq_false_iff_ne.mpr c9
      have c9b1 : (a0 != 25) = true := bne_iff_ne.mpr c9
      by_cases c12 : a0 = 26
      · rw [if_pos c12] at H
        have c12b0 : (a0 == 26) = true := beq_iff_eq.mpr c12
        have c12b1 : (a0 != 26) = false := bne_eq_false_iff_eq.mpr c12
        clear c12
        by_cases c13 : (wrap64 (a2)) = 0
        · rw [if_pos c13] at H
          exact absurd H (by simp)
        · rw [if_neg c13] at H
          have c13b0 : ((wrap64 (a2)) == 0) = false := beq_eq_false_iff_ne.mpr c13
          have c13b1 : ((wrap64 (a2)) != 0) = true := bne_iff_ne.mpr c13
          replace H := Option.bind_eq_some_iff.mp H
          obtain ⟨t164, A140, H⟩ := H
          replace H : (some t164) = some r := H
          have A14 := Aside0.mk A140
          clear A140
          obtain rfl := Option.some.inj H
          go_enter Try.func24, Try.ntmps24
          go_wp2_with (first | ((with_reducible refine gate_callee (f := 11) rfl ?_); refine goesL_ (some 10) rfl rfl Try.func11 (by kernel_rfl) rfl #[.int .u16 a1] rfl (by (try simp only [List.map_toArray, List.map_cons, List.map_nil]); first | done | rfl | (simp only [List.length_drop, List.length_take]; rfl)) ?_; (with_reducible refine (wispref01_Signed.calls a1 t158 _ A4.out).mono ?_); rintro e w' ⟨rfl, ⟨nd, rfl⟩⟩; refine ⟨_, rfl, ?_⟩) | ((with_reducible refine gate_callee (f := 11) rfl ?_); refine goesL_ (some 12) rfl rfl Try.func11 (by kernel_rfl) rfl #[.int .u16 a2] rfl (by (try simp only [List.map_toArray, List.map_cons, List.map_nil]); first | done | rfl | (simp only [List.length_drop, List.length_take]; rfl)) ?_; (with_reducible refine (wispref01_Signed.calls a2 t159 _ A5.out).mono ?_); rintro e w' ⟨rfl, ⟨nd, rfl⟩⟩; refine ⟨_, rfl, ?_⟩) | ((with_reducible refine gate_callee (f := 13) rfl ?_); refine goesL_ (some 37) rfl rfl Try.func13 (by kernel_rfl) rfl #[.int .i64 (wrap64 (Int.tdiv (wrap64 (a1)) (wrap64 (a2))))] rfl (by (try simp only [List.map_toArray, List.map_cons, List.map_nil]); first | done | rfl | (simp only [List.length_drop, List.length_take]; rfl)) ?_; (with_reducible refine (wispref01_Cell.calls (wrap64 (Int.tdiv (wrap64 (a1)) (wrap64 (a2)))) t164 _ A14.out).mono ?_); rintro e w' ⟨rfl, ⟨nd, rfl⟩⟩; refine ⟨_, rfl, ?_⟩))
          go_ret
          exact ⟨by first | rfl | (simp; done) | (simp [*]; done), by repeat (first | exact Drawn0.refl _ | apply Drawn0.step)⟩
      · rw [if_neg c12] at H
        have c12b0 : (a0 == 26) = false := beq_eq_false_iff_ne.mpr c12
        have c12b1 : (a0 != 26) = true := bne_iff_ne.mpr c12
        by_cases c15 : (wrap64 (a2)) = 0
        · rw [if_pos c15] at H
          exact absurd H (by simp)
        · rw [if_neg c15] at H
          have c15b0 : ((wrap64 (a2)) == 0) = false := beq_eq_false_iff_ne.mpr c15
          have c15b1 : ((wrap64 (a2)) != 0) = true := bne_iff_ne.mpr c15
          replace H := Option.bind_eq_some_iff.mp H
          obtain ⟨t165, A160, H⟩ := H
          replace H : (some t165) = some r := H
          have A16 := Aside0.mk A160
          clear A160
          obtain rfl := Option.some.inj H
          go_enter Try.func24, Try.ntmps24
          go_wp2_with (first | ((with_reducible refine gate_callee (f := 11) rfl ?_); refine goesL_ (some 10) rfl rfl Try.func11 (by kernel_rfl) rfl #[.int .u16 a1] rfl (by (try simp only [List.map_toArray, List.map_cons, List.map_nil]); first | done | rfl | (simp only [List.length_drop, List.length_take]; rfl)) ?_; (with_reducible refine (wispref01_Signed.calls a1 t158 _ A4.out).mono ?_); rintro e w' ⟨rfl, ⟨nd, rfl⟩⟩; refine ⟨_, rfl, ?_⟩) | ((with_reducible refine gate_callee (f := 11) rfl ?_); refine goesL_ (some 12) rfl rfl Try.func11 (by kernel_rfl) rfl #[.int .u16 a2] rfl (by (try simp only [List.map_toArray, List.map_cons, List.map_nil]); first | done | rfl | (simp only [List.length_drop, List.length_take]; rfl)) ?_; (with_reducible refine (wispref01_Signed.calls a2 t159 _ A5.out).mono ?_); rintro e w' ⟨rfl, ⟨nd, rfl⟩⟩; refine ⟨_, rfl, ?_⟩) | ((with_reducible refine gate_callee (f := 13) rfl ?_); refine goesL_ (some 49) rfl rfl Try.func13 (by kernel_rfl) rfl #[.int .i64 (wrap64 ((wrap64 (a1)) - (wrap64 ((wrap64 (Int.tdiv (wrap64 (a1)) (wrap64 (a2)))) * (wrap64 (a2))))))] rfl (by (try simp only [List.map_toArray, List.map_cons, List.map_nil]); first | done | rfl | (simp only [List.length_drop, List.length_take]; rfl)) ?_; (with_reducible refine (wispref01_Cell.calls (wrap64 ((wrap64 (a1)) - (wrap64 ((wrap64 (Int.tdiv (wrap64 (a1)) (wrap64 (a2)))) * (wrap64 (a2)))))) t165 _ A16.out).mono ?_); rintro e w' ⟨rfl, ⟨nd, rfl⟩⟩; refine ⟨_, rfl, ?_⟩))
          go_ret
          exact ⟨by first | rfl | (simp; done) | (simp [*]; done), by repeat (first | exact Drawn0.refl _ | apply Drawn0.step)⟩

/-! ### wispref01_bits: function 25 -/
def wispref01_bits.l0 : Nat → Int → Int → Int → Int → Int → Int → Option (Int)
  | 0, _, _, _, _, _, _ => none
  | k + 1, x0, x1, x2, x7, x8, x9 => if x8 < 16 then (if x9 = 0 then (none) else (if x0 = 36 then (if (wrap64 ((Int.tmod (wrap64 (Int.tdiv (wrap64 (x1)) x9)) 2) + (Int.tmod (wrap64 (Int.tdiv (wrap64 (x2)) x9)) 2))) = 2 then (wispref01_bits.l0 k x0 x1 x2 (wrap64 (x7 + x9)) (wrap64 (x8 + 1)) (wrap64 (x9 * 2))) else (if x0 = 37 then (if (wrap64 ((Int.tmod (wrap64 (Int.tdiv (wrap64 (x1)) x9)) 2) + (Int.tmod (wrap64 (Int.tdiv (wrap64 (x2)) x9)) 2))) > 0 then (wispref01_bits.l0 k x0 x1 x2 (wrap64 (x7 + x9)) (wrap64 (x8 + 1)) (wrap64 (x9 * 2))) else (if x0 = 38 then (if (wrap64 ((Int.tmod (wrap64 (Int.tdiv (wrap64 (x1)) x9)) 2) + (Int.tmod (wrap64 (Int.tdiv (wrap64 (x2)) x9)) 2))) = 1 then (wispref01_bits.l0 k x0 x1 x2 (wrap64 (x7 + x9)) (wrap64 (x8 + 1)) (wrap64 (x9 * 2))) else (wispref01_bits.l0 k x0 x1 x2 x7 (wrap64 (x8 + 1)) (wrap64 (x9 * 2)))) else (wispref01_bits.l0 k x0 x1 x2 x7 (wrap64 (x8 + 1)) (wrap64 (x9 * 2))))) else (if x0 = 38 then (if (wrap64 ((Int.tmod (wrap64 (Int.tdiv (wrap64 (x1)) x9)) 2) + (Int.tmod (wrap64 (Int.tdiv (wrap64 (x2)) x9)) 2))) = 1 then (wispref01_bits.l0 k x0 x1 x2 (wrap64 (x7 + x9)) (wrap64 (x8 + 1)) (wrap64 (x9 * 2))) else (wispref01_bits.l0 k x0 x1 x2 x7 (wrap64 (x8 + 1)) (wrap64 (x9 * 2)))) else (wispref01_bits.l0 k x0 x1 x2 x7 (wrap64 (x8 + 1)) (wrap64 (x9 * 2)))))) else (if x0 = 37 then (if (wrap64 ((Int.tmod (wrap64 (Int.tdiv (wrap64 (x1)) x9)) 2) + (Int.tmod (wrap64 (Int.tdiv (wrap64 (x2)) x9)) 2))) > 0 then (wispref01_bits.l0 k x0 x1 x2 (wrap64 (x7 + x9)) (wrap64 (x8 + 1)) (wrap64 (x9 * 2))) else (if x0 = 38 then (if (wrap64 ((Int.tmod (wrap64 (Int.tdiv (wrap64 (x1)) x9)) 2) + (Int.tmod (wrap64 (Int.tdiv (wrap64 (x2)) x9)) 2))) = 1 then (wispref01_bits.l0 k x0 x1 x2 (wrap64 (x7 + x9)) (wrap64 (x8 + 1)) (wrap64 (x9 * 2))) else (wispref01_bits.l0 k x0 x1 x2 x7 (wrap64 (x8 + 1)) (wrap64 (x9 * 2)))) else (wispref01_bits.l0 k x0 x1 x2 x7 (wrap64 (x8 + 1)) (wrap64 (x9 * 2))))) else (if x0 = 38 then (if (wrap64 ((Int.tmod (wrap64 (Int.tdiv (wrap64 (x1)) x9)) 2) + (Int.tmod (wrap64 (Int.tdiv (wrap64 (x2)) x9)) 2))) = 1 then (wispref01_bits.l0 k x0 x1 x2 (wrap64 (x7 + x9)) (wrap64 (x8 + 1)) (wrap64 (x9 * 2))) else (wispref01_bits.l0 k x0 x1 x2 x7 (wrap64 (x8 + 1)) (wrap64 (x9 * 2)))) else (wispref01_bits.l0 k x0 x1 x2 x7 (wrap64 (x8 + 1)) (wrap64 (x9 * 2))))))) else ((wispref01_Cell.f x7).bind fun t166 => (some t166))
def wispref01_bits.f (k : Nat) (a0 : Int) (a1 : Int) (a2 : Int) : Option (Int) := wispref01_bits.l0 k a0 a1 a2 0 0 1
theorem wispref01_bits.mono_l : ∀ k, (∀ y0 y1 y2 y3 y4 y5, LeO (wispref01_bits.l0 k y0 y1 y2 y3 y4 y5) (wispref01_bits.l0 (k + 1) y0 y1 y2 y3 y4 y5))
  | 0 => fun _ _ _ _ _ _ r h => by simp [wispref01_bits.l0] at h
  | k + 1 => by
    have ih0 := wispref01_bits.mono_l k
    · intro y0 y1 y2 y3 y4 y5
      unfold wispref01_bits.l0
      repeat' first
      | (with_reducible exact ih0 _ _ _ _ _ _)
      | (with_reducible exact LeO.refl _)
      | (with_reducible exact LeO.none _)
      | (with_reducible refine LeO.ite ?_ ?_)
      | (with_reducible refine LeO.bind ?_ (fun _ => ?_))
      | exact ih0 _ _ _ _ _ _
      | exact LeO.none _
      | refine LeO.ite ?_ ?_
      | refine LeO.bind ?_ (fun _ => ?_)
theorem wispref01_bits.mono : ∀ a0 a1 a2 k, LeO (wispref01_bits.f k a0 a1 a2) (wispref01_bits.f (k + 1) a0 a1 a2) := by
  intro a0 a1 a2 k
  have ih0 := wispref01_bits.mono_l k
  unfold wispref01_bits.f
  repeat' first
      | (with_reducible exact ih0 _ _ _ _ _ _)
      | (with_reducible exact LeO.refl _)
      | (with_reducible exact LeO.none _)
      | (with_reducible refine LeO.ite ?_ ?_)
      | (with_reducible refine LeO.bind ?_ (fun _ => ?_))
      | exact ih0 _ _ _ _ _ _
      | exact LeO.none _
      | refine LeO.ite ?_ ?_
      | refine LeO.bind ?_ (fun _ => ?_)
set_option maxHeartbeats 8000000 in
set_option maxRecDepth 100000 in
theorem wispref01_bits.calls (k : Nat) (a0 : Int) (a1 : Int) (a2 : Int) (r : Int) (w : World) (h : wispref01_bits.f k a0 a1 a2 = some r) :
    Calls Try.prog 25 #[.int .i64 a0, .int .u16 a1, .int .u16 a2] w fun e w' => e = .returned (.int .u16 r) ∧ Drawn0 w w' := by
  have H : (wispref01_bits.l0 k a0 a1 a2 0 0 1) = some r := h
  clear h
  have H' := Aside0.mk H
  clear H
  go_enter Try.func25, Try.ntmps25
  go_wp2
  go_loopg [7, 8, 9] k (fun kq v7 v8 v9 w' => ∃ (x7_1 : Int) (x8_1 : Int) (x9_1 : Int), v7 = .int .i64 x7_1 ∧ v8 = .int .i64 x8_1 ∧ v9 = .int .i64 x9_1 ∧ Aside0 (wispref01_bits.l0 kq a0 a1 a2 x7_1 x8_1 x9_1 = some r) ∧ Aside0 (kq ≤ k) ∧ Drawn0 w w')
  case atStart => exact ⟨(0), (0), (1), (by first | rfl | (simp; done) | (simp [*]; done)), (by first | rfl | (simp; done) | (simp [*]; done)), (by first | rfl | (simp; done) | (simp [*]; done)), H', ⟨Nat.le_refl _⟩, by repeat (first | exact Drawn0.refl _ | apply Drawn0.step)⟩
  case round =>
    clear H'
    try clear c2
    try clear p2
    obtain ⟨x7_1, x8_1, x9_1, rfl, rfl, rfl, HA, HK1, ⟨m1, rfl⟩⟩ := hrel
    cases gk with
    | zero => exact absurd HA.out (by simp [wispref01_bits.l0])
    | succ k1 =>
      have H := HA.out
      clear HA
      simp only [wispref01_bits.l0] at H
      by_cases c4 : x8_1 < 16
      · rw [if_pos c4] at H
        have c4b0 : decide (x8_1 < 16) = true := decide_eq_true c4
        clear c4
        by_cases c5 : x9_1 = 0
        · rw [if_pos c5] at H
          exact absurd H (by simp)
        · rw [if_neg c5] at H
          have c5b0 : (x9_1 == 0) = false := beq_eq_false_iff_ne.mpr c5
          have c5b1 : (x9_1 != 0) = true := bne_iff_ne.mpr c5
          by_cases c6 : a0 = 36
          · rw [if_pos c6] at H
            have c6b0 : (a0 == 36) = true := beq_iff_eq.mpr c6
            have c6b1 : (a0 != 36) = false := bne_eq_false_iff_eq.mpr c6
            clear c6
            by_cases c7 : (wrap64 ((Int.tmod (wrap64 (Int.tdiv (wrap64 (a1)) x9_1)) 2) + (Int.tmod (wrap64 (Int.tdiv (wrap64 (a2)) x9_1)) 2))) = 2
            · rw [if_pos c7] at H
              have c7b0 : ((wrap64 ((Int.tmod (wrap64 (Int.tdiv (wrap64 (a1)) x9_1)) 2) + (Int.tmod (wrap64 (Int.tdiv (wrap64 (a2)) x9_1)) 2))) == 2) = true := beq_iff_eq.mpr c7
              have c7b1 : ((wrap64 ((Int.tmod (wrap64 (Int.tdiv (wrap64 (a1)) x9_1)) 2) + (Int.tmod (wrap64 (Int.tdiv (wrap64 (a2)) x9_1)) 2))) != 2) = false := bne_eq_false_iff_eq.mpr c7
              clear c7
              have H' := Aside0.mk H
              clear H
              go_wp2
              go_roundg k1
              case measure => have := HK1.out; omega
              case rel => exact ⟨(wrap64 (x7_1 + x9_1)), (wrap64 (x8_1 + 1)), (wrap64 (x9_1 * 2)), (by first | rfl | (simp; done) | (simp [*]; done)), (by first | rfl | (simp; done) | (simp [*]; done)), (by first | rfl | (simp; done) | (simp [*]; done)), H', ⟨by have := HK1.out; omega⟩, by repeat (first | exact Drawn0.refl _ | apply Drawn0.step)⟩
            · rw [if_neg c7] at H
              have c7b0 : ((wrap64 ((Int.tmod (wrap64 (Int.tdiv (wrap64 (a1)) x9_1)) 2) + (Int.tmod (wrap64 (Int.tdiv (wrap64 (a2)) x9_1)) 2))) == 2) = false := beq_eq_false_iff_ne.mpr c7
              have c7b1 : ((wrap64 ((Int.tmod (wrap64 (Int.tdiv (wrap64 (a1)) x9_1)) 2) + (Int.tmod (wrap64 (Int.tdiv (wrap64 (a2)) x9_1)) 2))) != 2) = true := bne_iff_ne.mpr c7
              by_cases c8 : a0 = 37
              · rw [if_pos c8] at H
                have c8b0 : (a0 == 37) = true := beq_iff_eq.mpr c8
                have c8b1 : (a0 != 37) = false := bne_eq_false_iff_eq.mpr c8
                clear c8
                by_cases c9 : (wrap64 ((Int.tmod (wrap64 (Int.tdiv (wrap64 (a1)) x9_1)) 2) + (Int.tmod (wrap64 (Int.tdiv (wrap64 (a2)) x9_1)) 2))) > 0
                · rw [if_pos c9] at H
                  have c9b0 : decide (0 < (wrap64 ((Int.tmod (wrap64 (Int.tdiv (wrap64 (a1)) x9_1)) 2) + (Int.tmod (wrap64 (Int.tdiv (wrap64 (a2)) x9_1)) 2)))) = true := decide_eq_true c9
                  clear c9
                  have H' := Aside0.mk H
                  clear H
                  go_wp2
                  go_roundg k1
                  case measure => have := HK1.out; omega
                  case rel => exact ⟨(wrap64 (x7_1 + x9_1)), (wrap64 (x8_1 + 1)), (wrap64 (x9_1 * 2)), (by first | rfl | (simp; done) | (simp [*]; done)), (by first | rfl | (simp; done) | (simp [*]; done)), (by first | rfl | (simp; done) | (simp [*]; done)), H', ⟨by have := HK1.out; omega⟩, by repeat (first | exact Drawn0.refl _ | apply Drawn0.step)⟩
                · rw [if_neg c9] at H
                  have c9b0 : decide (0 < (wrap64 ((Int.tmod (wrap64 (Int.tdiv (wrap64 (a1)) x9_1)) 2) + (Int.tmod (wrap64 (Int.tdiv (wrap64 (a2)) x9_1)) 2)))) = false := decide_eq_false c9
                  clear c9
                  by_cases c10 : a0 = 38
                  · rw [if_pos c10] at H
                    have c10b0 : (a0 == 38) = true := beq_iff_eq.mpr c10
                    have c10b1 : (a0 != 38) = false := bne_eq_false_iff_eq.mpr c10
                    clear c10
                    by_cases c11 : (wrap64 ((Int.tmod (wrap64 (Int.tdiv (wrap64 (a1)) x9_1)) 2) + (Int.tmod (wrap64 (Int.tdiv (wrap64 (a2)) x9_1)) 2))) = 1
                    · rw [if_pos c11] at H
                      have c11b0 : ((wrap64 ((Int.tmod (wrap64 (Int.tdiv (wrap64 (a1)) x9_1)) 2) + (Int.tmod (wrap64 (Int.tdiv (wrap64 (a2)) x9_1)) 2))) == 1) = true := beq_iff_eq.mpr c11
                      have c11b1 : ((wrap64 ((Int.tmod (wrap64 (Int.tdiv (wrap64 (a1)) x9_1)) 2) + (Int.tmod (wrap64 (Int.tdiv (wrap64 (a2)) x9_1)) 2))) != 1) = false := bne_eq_false_iff_eq.mpr c11
                      clear c11
                      have H' := Aside0.mk H
                      clear H
                      go_wp2
                      go_roundg k1
                      case measure => have := HK1.out; omega
                      case rel => exact ⟨(wrap64 (x7_1 + x9_1)), (wrap64 (x8_1 + 1)), (wrap64 (x9_1 * 2)), (by first | rfl | (simp; done) | (simp [*]; done)), (by first | rfl | (simp; done) | (simp [*]; done)), (by first | rfl | (simp; done) | (simp [*]; done)), H', ⟨by have := HK1.out; omega⟩, by repeat (first | exact Drawn0.refl _ | apply Drawn0.step)⟩
                    · rw [if_neg c11] at H
                      have c11b0 : ((wrap64 ((Int.tmod (wrap64 (Int.tdiv (wrap64 (a1)) x9_1)) 2) + (Int.tmod (wrap64 (Int.tdiv (wrap64 (a2)) x9_1)) 2))) == 1) = false := beq_eq_false_iff_ne.mpr c11
                      have c11b1 : ((wrap64 ((Int.tmod (wrap64 (Int.tdiv (wrap64 (a1)) x9_1)) 2) + (Int.tmod (wrap64 (Int.tdiv (wrap64 (a2)) x9_1)) 2))) != 1) = true := bne_iff_ne.mpr c11
                      have H' := Aside0.mk H
                      clear H
                      go_wp2
                      go_roundg k1
                      case measure => have := HK1.out; omega
                      case rel => exact ⟨(x7_1), (wrap64 (x8_1 + 1)), (wrap64 (x9_1 * 2)), (by first | rfl | (simp; done) | (simp [*]; done)), (by first | rfl | (simp; done) | (simp [*]; done)), (by first | rfl | (simp; done) | (simp [*]; done)), H', ⟨by have := HK1.out; omega⟩, by repeat (first | exact Drawn0.refl _ | apply Drawn0.step)⟩
                  · rw [if_neg c10] at H
                    have c10b0 : (a0 == 38) = false := beq_eq_false_iff_ne.mpr c10
                    have c10b1 : (a0 != 38) = true := bne_iff_ne.mpr c10
                    have H' := Aside0.mk H
                    clear H
                    go_wp2
                    go_roundg k1
                    case measure => have := HK1.out; omega
                    case rel => exact ⟨(x7_1), (wrap64 (x8_1 + 1)), (wrap64 (x9_1 * 2)), (by first | rfl | (simp; done) | (simp [*]; done)), (by first | rfl | (simp; done) | (simp [*]; done)), (by first | rfl | (simp; done) | (simp [*]; done)), H', ⟨by have := HK1.out; omega⟩, by repeat (first | exact Drawn0.refl _ | apply Drawn0.step)⟩
              · rw [if_neg c8] at H
                have c8b0 : (a0 == 37) = false := beq_eq_false_iff_ne.mpr c8
                have c8b1 : (a0 != 37) = true := bne_iff_ne.mpr c8
                by_cases c12 : a0 = 38
                · rw [if_pos c12] at H
                  have c12b0 : (a0 == 38) = true := beq_iff_eq.mpr c12
                  have c12b1 : (a0 != 38) = false := bne_eq_false_iff_eq.mpr c12
                  clear c12
                  by_cases c13 : (wrap64 ((Int.tmod (wrap64 (Int.tdiv (wrap64 (a1)) x9_1)) 2) + (Int.tmod (wrap64 (Int.tdiv (wrap64 (a2)) x9_1)) 2))) = 1
                  · rw [if_pos c13] at H
                    have c13b0 : ((wrap64 ((Int.tmod (wrap64 (Int.tdiv (wrap64 (a1)) x9_1)) 2) + (Int.tmod (wrap64 (Int.tdiv (wrap64 (a2)) x9_1)) 2))) == 1) = true := beq_iff_eq.mpr c13
                    have c13b1 : ((wrap64 ((Int.tmod (wrap64 (Int.tdiv (wrap64 (a1)) x9_1)) 2) + (Int.tmod (wrap64 (Int.tdiv (wrap64 (a2)) x9_1)) 2))) != 1) = false := bne_eq_false_iff_eq.mpr c13
                    clear c13
                    have H' := Aside0.mk H
                    clear H
                    go_wp2
                    go_roundg k1
                    case measure => have := HK1.out; omega
                    case rel => exact ⟨(wrap64 (x7_1 + x9_1)), (wrap64 (x8_1 + 1)), (wrap64 (x9_1 * 2)), (by first | rfl | (simp; done) | (simp [*]; done)), (by first | rfl | (simp; done) | (simp [*]; done)), (by first | rfl | (simp; done) | (simp [*]; done)), H', ⟨by have := HK1.out; omega⟩, by repeat (first | exact Drawn0.refl _ | apply Drawn0.step)⟩
                  · rw [if_neg c13] at H
                    have c13b0 : ((wrap64 ((Int.tmod (wrap64 (Int.tdiv (wrap64 (a1)) x9_1)) 2) + (Int.tmod (wrap64 (Int.tdiv (wrap64 (a2)) x9_1)) 2))) == 1) = false := beq_eq_false_iff_ne.mpr c13
                    have c13b1 : ((wrap64 ((Int.tmod (wrap64 (Int.tdiv (wrap64 (a1)) x9_1)) 2) + (Int.tmod (wrap64 (Int.tdiv (wrap64 (a2)) x9_1)) 2))) != 1) = true := bne_iff_ne.mpr c13
                    have H' := Aside0.mk H
                    clear H
                    go_wp2
                    go_roundg k1
                    case measure => have := HK1.out; omega
                    case rel => exact ⟨(x7_1), (wrap64 (x8_1 + 1)), (wrap64 (x9_1 * 2)), (by first | rfl | (simp; done) | (simp [*]; done)), (by first | rfl | (simp; done) | (simp [*]; done)), (by first | rfl | (simp; done) | (simp [*]; done)), H', ⟨by have := HK1.out; omega⟩, by repeat (first | exact Drawn0.refl _ | apply Drawn0.step)⟩
                · rw [if_neg c12] at H
                  have c12b0 : (a0 == 38) = false := beq_eq_false_iff_ne.mpr c12
                  have c12b1 : (a0 != 38) = true := bne_iff_ne.mpr c12
                  have H' := Aside0.mk H
                  clear H
                  go_wp2
                  go_roundg k1
                  case measure => have := HK1.out; omega
                  case rel => exact ⟨(x7_1), (wrap64 (x8_1 + 1)), (wrap64 (x9_1 * 2)), (by first | rfl | (simp; done) | (simp [*]; done)), (by first | rfl | (simp; done) | (simp [*]; done)), (by first | rfl | (simp; done) | (simp [*]; done)), H', ⟨by have := HK1.out; omega⟩, by repeat (first | exact Drawn0.refl _ | apply Drawn0.step)⟩
          · rw [if_neg c6] at H
            have c6b0 : (a0 == 36) = false := beq_eq_false_iff_ne.mpr c6
            have c6b1 : (a0 != 36) = true := bne_iff_ne.mpr c6
            by_cases c14 : a0 = 37
            · rw [if_pos c14] at H
              have c14b0 : (a0 == 37) = true := beq_iff_eq.mpr c14
              have c14b1 : (a0 != 37) = false := bne_eq_false_iff_eq.mpr c14
              clear c14
              by_cases c15 : (wrap64 ((Int.tmod (wrap64 (Int.tdiv (wrap64 (a1)) x9_1)) 2) + (Int.tmod (wrap64 (Int.tdiv (wrap64 (a2)) x9_1)) 2))) > 0
              · rw [if_pos c15] at H
                have c15b0 : decide (0 < (wrap64 ((Int.tmod (wrap64 (Int.tdiv (wrap64 (a1)) x9_1)) 2) + (Int.tmod (wrap64 (Int.tdiv (wrap64 (a2)) x9_1)) 2)))) = true := decide_eq_true c15
                clear c15
                have H' := Aside0.mk H
                clear H
                go_wp2
                go_roundg k1
                case measure => have := HK1.out; omega
                case rel => exact ⟨(wrap64 (x7_1 + x9_1)), (wrap64 (x8_1 + 1)), (wrap64 (x9_1 * 2)), (by first | rfl | (simp; done) | (simp [*]; done)), (by first | rfl | (simp; done) | (simp [*]; done)), (by first | rfl | (simp; done) | (simp [*]; done)), H', ⟨by have := HK1.out; omega⟩, by repeat (first | exact Drawn0.refl _ | apply Drawn0.step)⟩
              · rw [if_neg c15] at H
                have c15b0 : decide (0 < (wrap64 ((Int.tmod (wrap64 (Int.tdiv (wrap64 (a1)) x9_1)) 2) + (Int.tmod (wrap64 (Int.tdiv (wrap64 (a2)) x9_1)) 2)))) = false := decide_eq_false c15
                clear c15
                by_cases c16 : a0 = 38
                · rw [if_pos c16] at H
                  have c16b0 : (a0 == 38) = true := beq_iff_eq.mpr c16
                  have c16b1 : (a0 != 38) = false := bne_eq_false_iff_eq.mpr c16
                  clear c16
                  by_cases c17 : (wrap64 ((Int.tmod (wrap64 (Int.tdiv (wrap64 (a1)) x9_1)) 2) + (Int.tmod (wrap64 (Int.tdiv (wrap64 (a2)) x9_1)) 2))) = 1
                  · rw [if_pos c17] at H
                    have c17b0 : ((wrap64 ((Int.tmod (wrap64 (Int.tdiv (wrap64 (a1)) x9_1)) 2) + (Int.tmod (wrap64 (Int.tdiv (wrap64 (a2)) x9_1)) 2))) == 1) = true := beq_iff_eq.mpr c17
                    have c17b1 : ((wrap64 ((Int.tmod (wrap64 (Int.tdiv (wrap64 (a1)) x9_1)) 2) + (Int.tmod (wrap64 (Int.tdiv (wrap64 (a2)) x9_1)) 2))) != 1) = false := bne_eq_false_iff_eq.mpr c17
                    clear c17
                    have H' := Aside0.mk H
                    clear H
                    go_wp2
                    go_roundg k1
                    case measure => have := HK1.out; omega
                    case rel => exact ⟨(wrap64 (x7_1 + x9_1)), (wrap64 (x8_1 + 1)), (wrap64 (x9_1 * 2)), (by first | rfl | (simp; done) | (simp [*]; done)), (by first | rfl | (simp; done) | (simp [*]; done)), (by first | rfl | (simp; done) | (simp [*]; done)), H', ⟨by have := HK1.out; omega⟩, by repeat (first | exact Drawn0.refl _ | apply Drawn0.step)⟩
                  · rw [if_neg c17] at H
                    have c17b0 : ((wrap64 ((Int.tmod (wrap64 (Int.tdiv (wrap64 (a1)) x9_1)) 2) + (Int.tmod (wrap64 (Int.tdiv (wrap64 (a2)) x9_1)) 2))) == 1) = false := beq_eq_false_iff_ne.mpr c17
                    have c17b1 : ((wrap64 ((Int.tmod (wrap64 (Int.tdiv (wrap64 (a1)) x9_1)) 2) + (Int.tmod (wrap64 (Int.tdiv (wrap64 (a2)) x9_1)) 2))) != 1) = true := bne_iff_ne.mpr c17
                    have H' := Aside0.mk H
                    clear H
                    go_wp2
                    go_roundg k1
                    case measure => have := HK1.out; omega
                    case rel => exact ⟨(x7_1), (wrap64 (x8_1 + 1)), (wrap64 (x9_1 * 2)), (by first | rfl | (simp; done) | (simp [*]; done)), (by first | rfl | (simp; done) | (simp [*]; done)), (by first | rfl | (simp; done) | (simp [*]; done)), H', ⟨by have := HK1.out; omega⟩, by repeat (first | exact Drawn0.refl _ | apply Drawn0.step)⟩
                · rw [if_neg c16] at H
                  have c16b0 : (a0 == 38) = false := beq_eq_false_iff_ne.mpr c16
                  have c16b1 : (a0 != 38) = true := bne_iff_ne.mpr c16
                  have H' := Aside0.mk H
                  clear H
                  go_wp2
                  go_roundg k1
                  case measure => have := HK1.out; omega
                  case rel => exact ⟨(x7_1), (wrap64 (x8_1 + 1)), (wrap64 (x9_1 * 2)), (by first | rfl | (simp; done) | (simp [*]; done)), (by first | rfl | (simp; done) | (simp [*]; done)), (by first | rfl | (simp; done) | (simp [*]; done)), H', ⟨by have := HK1.out; omega⟩, by repeat (first | exact Drawn0.refl _ | apply Drawn0.step)⟩
            · rw [if_neg c14] at H
              have c14b0 : (a0 == 37) = false := beq_eq_false_iff_ne.mpr c14
              have c14b1 : (a0 != 37) = true := bne_iff_ne.mpr c14
              by_cases c18 : a0 = 38
              · rw [if_pos c18] at H
                have c18b0 : (a0 == 38) = true := beq_iff_eq.mpr c18
                have c18b1 : (a0 != 38) = false := bne_eq_false_iff_eq.mpr c18
                clear c18
                by_cases c19 : (wrap64 ((Int.tmod (wrap64 (Int.tdiv (wrap64 (a1)) x9_1)) 2) + (Int.tmod (wrap64 (Int.tdiv (wrap64 (a2)) x9_1)) 2))) = 1
                · rw [if_pos c19] at H
                  have c19b0 : ((wrap64 ((Int.tmod (wrap64 (Int.tdiv (wrap64 (a1)) x9_1)) 2) + (Int.tmod (wrap64 (Int.tdiv (wrap64 (a2)) x9_1)) 2))) == 1) = true := beq_iff_eq.mpr c19
                  have c19b1 : ((wrap64 ((Int.tmod (wrap64 (Int.tdiv (wrap64 (a1)) x9_1)) 2) + (Int.tmod (wrap64 (Int.tdiv (wrap64 (a2)) x9_1)) 2))) != 1) = false := bne_eq_false_iff_eq.mpr c19
                  clear c19
                  have H' := Aside0.mk H
                  clear H
                  go_wp2
                  go_roundg k1
                  case measure => have := HK1.out; omega
                  case rel => exact ⟨(wrap64 (x7_1 + x9_1)), (wrap64 (x8_1 + 1)), (wrap64 (x9_1 * 2)), (by first | rfl | (simp; done) | (simp [*]; done)), (by first | rfl | (simp; done) | (simp [*]; done)), (by first | rfl | (simp; done) | (simp [*]; done)), H', ⟨by have := HK1.out; omega⟩, by repeat (first | exact Drawn0.refl _ | apply Drawn0.step)⟩
                · rw [if_neg c19] at H
                  have c19b0 : ((wrap64 ((Int.tmod (wrap64 (Int.tdiv (wrap64 (a1)) x9_1)) 2) + (Int.tmod (wrap64 (Int.tdiv (wrap64 (a2)) x9_1)) 2))) == 1) = false := beq_eq_false_iff_ne.mpr c19
                  have c19b1 : ((wrap64 ((Int.tmod (wrap64 (Int.tdiv (wrap64 (a1)) x9_1)) 2) + (Int.tmod (wrap64 (Int.tdiv (wrap64 (a2)) x9_1)) 2))) != 1) = true := bne_iff_ne.mpr c19
                  have H' := Aside0.mk H
                  clear H
                  go_wp2
                  go_roundg k1
                  case measure => have := HK1.out; omega
                  case rel => exact ⟨(x7_1), (wrap64 (x8_1 + 1)), (wrap64 (x9_1 * 2)), (by first | rfl | (simp; done) | (simp [*]; done)), (by first | rfl | (simp; done) | (simp [*]; done)), (by first | rfl | (simp; done) | (simp [*]; done)), H', ⟨by have := HK1.out; omega⟩, by repeat (first | exact Drawn0.refl _ | apply Drawn0.step)⟩
              · rw [if_neg c18] at H
                have c18b0 : (a0 == 38) = false := beq_eq_false_iff_ne.mpr c18
                have c18b1 : (a0 != 38) = true := bne_iff_ne.mpr c18
                have H' := Aside0.mk H
                clear H
                go_wp2
                go_roundg k1
                case measure => have := HK1.out; omega
                case rel => exact ⟨(x7_1), (wrap64 (x8_1 + 1)), (wrap64 (x9_1 * 2)), (by first | rfl | (simp; done) | (simp [*]; done)), (by first | rfl | (simp; done) | (simp [*]; done)), (by first | rfl | (simp; done) | (simp [*]; done)), H', ⟨by have := HK1.out; omega⟩, by repeat (first | exact Drawn0.refl _ | apply Drawn0.step)⟩
      · rw [if_neg c4] at H
        have c4b0 : decide (x8_1 < 16) = false := decide_eq_false c4
        clear c4
        replace H := Option.bind_eq_some_iff.mp H
        obtain ⟨t166, A200, H⟩ := H
        replace H : (some t166) = some r := H
        have A20 := Aside0.mk A200
        clear A200
        obtain rfl := Option.some.inj H
        go_wp2_with (first | ((with_reducible refine gate_callee (f := 13) rfl ?_); refine goesL_ (some 62) rfl rfl Try.func13 (by kernel_rfl) rfl #[.int .i64 x7_1] rfl (by (try simp only [List.map_toArray, List.map_cons, List.map_nil]); first | done | rfl | (simp only [List.length_drop, List.length_take]; rfl)) ?_; (with_reducible refine (wispref01_Cell.calls x7_1 t166 _ A20.out).mono ?_); rintro e w' ⟨rfl, ⟨nd, rfl⟩⟩; refine ⟨_, rfl, ?_⟩))
        go_ret
        exact ⟨by first | rfl | (simp; done) | (simp [*]; done), by repeat (first | exact Drawn0.refl _ | apply Drawn0.step)⟩

/-! ### wispref01_power: function 26 -/
def wispref01_power.l0 : Nat → Int → Int → Int → Option (Int)
  | 0, _, _, _ => none
  | k + 1, x0, x3, x4 => if x4 < x0 then (wispref01_power.l0 k x0 (wrap64 (2 * x3)) (wrap64 (x4 + 1))) else (some x3)
def wispref01_power.f (k : Nat) (a0 : Int) : Option (Int) := wispref01_power.l0 k a0 1 0
theorem wispref01_power.mono_l : ∀ k, (∀ y0 y1 y2, LeO (wispref01_power.l0 k y0 y1 y2) (wispref01_power.l0 (k + 1) y0 y1 y2))
  | 0 => fun _ _ _ r h => by simp [wispref01_power.l0] at h
  | k + 1 => by
    have ih0 := wispref01_power.mono_l k
    · intro y0 y1 y2
      unfold wispref01_power.l0
      repeat' first
      | (with_reducible exact ih0 _ _ _)
      | (with_reducible exact LeO.refl _)
      | (with_reducible exact LeO.none _)
      | (with_reducible refine LeO.ite ?_ ?_)
      | (with_reducible refine LeO.bind ?_ (fun _ => ?_))
      | exact ih0 _ _ _
      | exact LeO.none _
      | refine LeO.ite ?_ ?_
      | refine LeO.bind ?_ (fun _ => ?_)
theorem wispref01_power.mono : ∀ a0 k, LeO (wispref01_power.f k a0) (wispref01_power.f (k + 1) a0) := by
  intro a0 k
  have ih0 := wispref01_power.mono_l k
  unfold wispref01_power.f
  repeat' first
      | (with_reducible exact ih0 _ _ _)
      | (with_reducible exact LeO.refl _)
      | (with_reducible exact LeO.none _)
      | (with_reducible refine LeO.ite ?_ ?_)
      | (with_reducible refine LeO.bind ?_ (fun _ => ?_))
      | exact ih0 _ _ _
      | exact LeO.none _
      | refine LeO.ite ?_ ?_
      | refine LeO.bind ?_ (fun _ => ?_)
set_option maxHeartbeats 8000000 in
set_option maxRecDepth 100000 in
theorem wispref01_power.calls (k : Nat) (a0 : Int) (r : Int) (w : World) (h : wispref01_power.f k a0 = some r) :
    Calls Try.prog 26 #[.int .i64 a0] w fun e w' => e = .returned (.int .i64 r) ∧ Drawn0 w w' := by
  have H : (wispref01_power.l0 k a0 1 0) = some r := h
  clear h
  have H' := Aside0.mk H
  clear H
  go_enter Try.func26, Try.ntmps26
  go_wp2
  go_loopg [3, 4] k (fun kq v3 v4 w' => ∃ (x3_1 : Int) (x4_1 : Int), v3 = .int .i64 x3_1 ∧ v4 = .int .i64 x4_1 ∧ Aside0 (wispref01_power.l0 kq a0 x3_1 x4_1 = some r) ∧ Aside0 (kq ≤ k) ∧ Drawn0 w w')
  case atStart => exact ⟨(1), (0), (by first | rfl | (simp; done) | (simp [*]; done)), (by first | rfl | (simp; done) | (simp [*]; done)), H', ⟨Nat.le_refl _⟩, by repeat (first | exact Drawn0.refl _ | apply Drawn0.step)⟩
  case round =>
    clear H'
    obtain ⟨x3_1, x4_1, rfl, rfl, HA, HK1, ⟨m1, rfl⟩⟩ := hrel
    cases gk with
    | zero => exact absurd HA.out (by simp [wispref01_power.l0])
    | succ k1 =>
      have H := HA.out
      clear HA
      simp only [wispref01_power.l0] at H
      by_cases c2 : x4_1 < a0
      · rw [if_pos c2] at H
        have c2b0 : decide (x4_1 < a0) = true := decide_eq_true c2
        clear c2
        have H' := Aside0.mk H
        clear H
        go_wp2
        go_roundg k1
        case measure => have := HK1.out; omega
        case rel => exact ⟨(wrap64 (2 * x3_1)), (wrap64 (x4_1 + 1)), (by first | rfl | (simp; done) | (simp [*]; done)), (by first | rfl | (simp; done) | (simp [*]; done)), H', ⟨by have := HK1.out; omega⟩, by repeat (first | exact Drawn0.refl _ | apply Drawn0.step)⟩
      · rw [if_neg c2] at H
        have c2b0 : decide (x4_1 < a0) = false := decide_eq_false c2
        clear c2
        obtain rfl := Option.some.inj H
        go_wp2
        go_ret
        exact ⟨by first | rfl | (simp; done) | (simp [*]; done), by repeat (first | exact Drawn0.refl _ | apply Drawn0.step)⟩

end Go.Proofs.Ytgnjlgfnpfjjnaa.P
