/- Printed by a program of this session (it turns the kit's print): see wip/myprint. -/
import Derived.Test.YtgnjlgfnpfjjnaaPx0
namespace Go.Proofs.Ytgnjlgfnpfjjnaa.P
open Go.RowKit Go.Proofs.YtgnjlgfnpfjjnaaW.PrintWords Go.Proofs.YtgnjlgfnpfjjnaaW.PrintLast Go.Proofs.YtgnjlgfnpfjjnaaW.PrintMore Go.Proofs.Ytgnjlgfnpfjjnaa.Mine
attribute [local go_sem] max2_int min2_int max_two min_two max_three min_three max_four min_four   -- for this text's walks alone
set_option linter.unusedVariables false
set_option linter.unusedSimpArgs false

/-! ### num_Signed: function 10 -/
def num_Signed.f (a0 : Int) : Option (Int) := some (wrap64 (IntKind.i16.wrap (a0)))
set_option maxHeartbeats 8000000 in
set_option maxRecDepth 100000 in
theorem num_Signed.calls (a0 : Int) (r : Int) (w : World) (h : num_Signed.f a0 = some r) :
    Calls Try.prog 10 #[.int .u16 a0] w fun e w' => e = .returned (.int .i64 r) ∧ Drawn0 w w' := by
  have H : (some (wrap64 (IntKind.i16.wrap (a0)))) = some r := h
  clear h
  obtain rfl := Option.some.inj H
  go_enter Try.func10, Try.ntmps10
  go_wp2
  go_ret
  exact ⟨by first | rfl | (simp; done) | (simp [*]; done), by repeat (first | exact Drawn0.refl _ | apply Drawn0.step)⟩

/-! ### num_Cell: function 12 -/
def num_Cell.f (a0 : Int) : Option (Int) := some (IntKind.u16.wrap (a0))
set_option maxHeartbeats 8000000 in
set_option maxRecDepth 100000 in
theorem num_Cell.calls (a0 : Int) (r : Int) (w : World) (h : num_Cell.f a0 = some r) :
    Calls Try.prog 12 #[.int .i64 a0] w fun e w' => e = .returned (.int .u16 r) ∧ Drawn0 w w' := by
  have H : (some (IntKind.u16.wrap (a0))) = some r := h
  clear h
  obtain rfl := Option.some.inj H
  go_enter Try.func12, Try.ntmps12
  go_wp2
  go_ret
  exact ⟨by first | rfl | (simp; done) | (simp [*]; done), by repeat (first | exact Drawn0.refl _ | apply Drawn0.step)⟩

/-! ### num_divided: function 21 -/
def num_divided.f (a0 : Int) (a1 : Int) (a2 : Int) : Option (Int) := if a2 = 0 then (some 0) else ((num_Signed.f a1).bind fun t101 => ((num_Signed.f a2).bind fun t102 => (if a0 = 26 then (if (wrap64 (a2)) = 0 then (none) else ((num_Cell.f (wrap64 (Int.tdiv (wrap64 (a1)) (wrap64 (a2))))).bind fun t103 => (some t103))) else (if a0 = 24 then (if t102 = 0 then (none) else ((num_Cell.f (wrap64 (Int.tdiv t101 t102))).bind fun t104 => (some t104))) else (if a0 = 27 then (if (wrap64 (a2)) = 0 then (none) else ((num_Cell.f (Int.tmod (wrap64 (a1)) (wrap64 (a2)))).bind fun t105 => (some t105))) else (if t102 = 0 then (none) else ((num_Cell.f (Int.tmod t101 t102)).bind fun t106 => (some t106))))))))
set_option maxHeartbeats 8000000 in
set_option maxRecDepth 100000 in
theorem num_divided.calls (a0 : Int) (a1 : Int) (a2 : Int) (r : Int) (w : World) (h : num_divided.f a0 a1 a2 = some r) :
    Calls Try.prog 21 #[.int .i64 a0, .int .u16 a1, .int .u16 a2] w fun e w' => e = .returned (.int .u16 r) ∧ Drawn0 w w' := by
  have H : (if a2 = 0 then (some 0) else ((num_Signed.f a1).bind fun t101 => ((num_Signed.f a2).bind fun t102 => (if a0 = 26 then (if (wrap64 (a2)) = 0 then (none) else ((num_Cell.f (wrap64 (Int.tdiv (wrap64 (a1)) (wrap64 (a2))))).bind fun t103 => (some t103))) else (if a0 = 24 then (if t102 = 0 then (none) else ((num_Cell.f (wrap64 (Int.tdiv t101 t102))).bind fun t104 => (some t104))) else (if a0 = 27 then (if (wrap64 (a2)) = 0 then (none) else ((num_Cell.f (Int.tmod (wrap64 (a1)) (wrap64 (a2)))).bind fun t105 => (some t105))) else (if t102 = 0 then (none) else ((num_Cell.f (Int.tmod t101 t102)).bind fun t106 => (some t106))))))))) = some r := h
  clear h
  by_cases c4 : a2 = 0
  · rw [if_pos c4] at H
    have c4b0 : (a2 == 0) = true := beq_iff_eq.mpr c4
    have c4b1 : (a2 != 0) = false := bne_eq_false_iff_eq.mpr c4
    clear c4
    obtain rfl := Option.some.inj H
    go_enter Try.func21, Try.ntmps21
    go_wp2
    go_ret
    exact ⟨by first | rfl | (simp; done) | (simp [*]; done), by repeat (first | exact Drawn0.refl _ | apply Drawn0.step)⟩
  · rw [if_neg c4] at H
    have c4b0 : (a2 == 0) = false := beq_eq_false_iff_ne.mpr c4
    have c4b1 : (a2 != 0) = true := bne_iff_ne.mpr c4
    replace H := Option.bind_eq_some_iff.mp H
    obtain ⟨t101, A50, H⟩ := H
    replace H : ((num_Signed.f a2).bind fun t102 => (if a0 = 26 then (if (wrap64 (a2)) = 0 then (none) else ((num_Cell.f (wrap64 (Int.tdiv (wrap64 (a1)) (wrap64 (a2))))).bind fun t103 => (some t103))) else (if a0 = 24 then (if t102 = 0 then (none) else ((num_Cell.f (wrap64 (Int.tdiv t101 t102))).bind fun t104 => (some t104))) else (if a0 = 27 then (if (wrap64 (a2)) = 0 then (none) else ((num_Cell.f (Int.tmod (wrap64 (a1)) (wrap64 (a2)))).bind fun t105 => (some t105))) else (if t102 = 0 then (none) else ((num_Cell.f (Int.tmod t101 t102)).bind fun t106 => (some t106))))))) = some r := H
    have A5 := Aside0.mk A50
    clear A50
    replace H := Option.bind_eq_some_iff.mp H
    obtain ⟨t102, A60, H⟩ := H
    replace H : (if a0 = 26 then (if (wrap64 (a2)) = 0 then (none) else ((num_Cell.f (wrap64 (Int.tdiv (wrap64 (a1)) (wrap64 (a2))))).bind fun t103 => (some t103))) else (if a0 = 24 then (if t102 = 0 then (none) else ((num_Cell.f (wrap64 (Int.tdiv t101 t102))).bind fun t104 => (some t104))) else (if a0 = 27 then (if (wrap64 (a2)) = 0 then (none) else ((num_Cell.f (Int.tmod (wrap64 (a1)) (wrap64 (a2)))).bind fun t105 => (some t105))) else (if t102 = 0 then (none) else ((num_Cell.f (Int.tmod t101 t102)).bind fun t106 => (some t106)))))) = some r := H
    have A6 := Aside0.mk A60
    clear A60
    by_cases c7 : a0 = 26
    · rw [if_pos c7] at H
      have c7b0 : (a0 == 26) = true := beq_iff_eq.mpr c7
      have c7b1 : (a0 != 26) = false := bne_eq_false_iff_eq.mpr c7
      clear c7
      by_cases c8 : (wrap64 (a2)) = 0
      · rw [if_pos c8] at H
        exact absurd H (by simp)
      · rw [if_neg c8] at H
        have c8b0 : ((wrap64 (a2)) == 0) = false := beq_eq_false_iff_ne.mpr c8
        have c8b1 : ((wrap64 (a2)) != 0) = true := bne_iff_ne.mpr c8
        replace H := Option.bind_eq_some_iff.mp H
        obtain ⟨t103, A90, H⟩ := H
        replace H : (some t103) = some r := H
        have A9 := Aside0.mk A90
        clear A90
        obtain rfl := Option.some.inj H
        go_enter Try.func21, Try.ntmps21
        go_wp2_with (first | ((with_reducible refine gate_callee (f := 10) rfl ?_); refine goesL_ (some 12) rfl rfl Try.func10 (by kernel_rfl) rfl #[.int .u16 a1] rfl (by (try simp only [List.map_toArray, List.map_cons, List.map_nil]); first | done | rfl | (simp only [List.length_drop, List.length_take]; rfl)) ?_; (with_reducible refine (num_Signed.calls a1 t101 _ A5.out).mono ?_); rintro e w' ⟨rfl, ⟨nd, rfl⟩⟩; refine ⟨_, rfl, ?_⟩) | ((with_reducible refine gate_callee (f := 10) rfl ?_); refine goesL_ (some 14) rfl rfl Try.func10 (by kernel_rfl) rfl #[.int .u16 a2] rfl (by (try simp only [List.map_toArray, List.map_cons, List.map_nil]); first | done | rfl | (simp only [List.length_drop, List.length_take]; rfl)) ?_; (with_reducible refine (num_Signed.calls a2 t102 _ A6.out).mono ?_); rintro e w' ⟨rfl, ⟨nd, rfl⟩⟩; refine ⟨_, rfl, ?_⟩) | ((with_reducible refine gate_callee (f := 12) rfl ?_); refine goesL_ (some 29) rfl rfl Try.func12 (by kernel_rfl) rfl #[.int .i64 (wrap64 (Int.tdiv (wrap64 (a1)) (wrap64 (a2))))] rfl (by (try simp only [List.map_toArray, List.map_cons, List.map_nil]); first | done | rfl | (simp only [List.length_drop, List.length_take]; rfl)) ?_; (with_reducible refine (num_Cell.calls (wrap64 (Int.tdiv (wrap64 (a1)) (wrap64 (a2)))) t103 _ A9.out).mono ?_); rintro e w' ⟨rfl, ⟨nd, rfl⟩⟩; refine ⟨_, rfl, ?_⟩))
        go_ret
        exact ⟨by first | rfl | (simp; done) | (simp [*]; done), by repeat (first | exact Drawn0.refl _ | apply Drawn0.step)⟩
    · rw [if_neg c7] at H
      have c7b0 : (a0 == 26) = false := beq_eq_false_iff_ne.mpr c7
      have c7b1 : (a0 != 26) = true := bne_iff_ne.mpr c7
      by_cases c10 : a0 = 24
      · rw [if_pos c10] at H
        have c10b0 : (a0 == 24) = true := beq_iff_eq.mpr c10
        have c10b1 : (a0 != 24) = false := bne_eq_false_iff_eq.mpr c10
        clear c10
        by_cases c11 : t102 = 0
        · rw [if_pos c11] at H
          exact absurd H (by simp)
        · rw [if_neg c11] at H
          have c11b0 : (t102 == 0) = false := beq_eq_false_iff_ne.mpr c11
          have c11b1 : (t102 != 0) = true := bne_iff_ne.mpr c11
          replace H := Option.bind_eq_some_iff.mp H
          obtain ⟨t104, A120, H⟩ := H
          replace H : (some t104) = some r := H
          have A12 := Aside0.mk A120
          clear A120
          obtain rfl := Option.some.inj H
          go_enter Try.func21, Try.ntmps21
          go_wp2_with (first | ((with_reducible refine gate_callee (f := 10) rfl ?_); refine goesL_ (some 12) rfl rfl Try.func10 (by kernel_rfl) rfl #[.int .u16 a1] rfl (by (try simp only [List.map_toArray, List.map_cons, List.map_nil]); first | done | rfl | (simp only [List.length_drop, List.length_take]; rfl)) ?_; (with_reducible refine (num_Signed.calls a1 t101 _ A5.out).mono ?_); rintro e w' ⟨rfl, ⟨nd, rfl⟩⟩; refine ⟨_, rfl, ?_⟩) | ((with_reducible refine gate_callee (f := 10) rfl ?_); refine goesL_ (some 14) rfl rfl Try.func10 (by kernel_rfl) rfl #[.int .u16 a2] rfl (by (try simp only [List.map_toArray, List.map_cons, List.map_nil]); first | done | rfl | (simp only [List.length_drop, List.length_take]; rfl)) ?_; (with_reducible refine (num_Signed.calls a2 t102 _ A6.out).mono ?_); rintro e w' ⟨rfl, ⟨nd, rfl⟩⟩; refine ⟨_, rfl, ?_⟩) | ((with_reducible refine gate_callee (f := 12) rfl ?_); refine goesL_ (some 29) rfl rfl Try.func12 (by kernel_rfl) rfl #[.int .i64 (wrap64 (Int.tdiv t101 t102))] rfl (by (try simp only [List.map_toArray, List.map_cons, List.map_nil]); first | done | rfl | (simp only [List.length_drop, List.length_take]; rfl)) ?_; (with_reducible refine (num_Cell.calls (wrap64 (Int.tdiv t101 t102)) t104 _ A12.out).mono ?_); rintro e w' ⟨rfl, ⟨nd, rfl⟩⟩; refine ⟨_, rfl, ?_⟩))
          go_ret
          exact ⟨by first | rfl | (simp; done) | (simp [*]; done), by repeat (first | exact Drawn0.refl _ | apply Drawn0.step)⟩
      · rw [if_neg c10] at H
        have c10b0 : (a0 == 24) = false := beq_eq_false_iff_ne.mpr c10
        have c10b1 : (a0 != 24) = true := bne_iff_ne.mpr c10
        by_cases c13 : a0 = 27
        · rw [if_pos c13] at H
          have c13b0 : (a0 == 27) = true := beq_iff_eq.mpr c13
          have c13b1 : (a0 != 27) = false := bne_eq_false_iff_eq.mpr c13
          clear c13
          by_cases c14 : (wrap64 (a2)) = 0
          · rw [if_pos c14] at H
            exact absurd H (by simp)
          · rw [if_neg c14] at H
            have c14b0 : ((wrap64 (a2)) == 0) = false := beq_eq_false_iff_ne.mpr c14
            have c14b1 : ((wrap64 (a2)) != 0) = true := bne_iff_ne.mpr c14
            replace H := Option.bind_eq_some_iff.mp H
            obtain ⟨t105, A150, H⟩ := H
            replace H : (some t105) = some r := H
            have A15 := Aside0.mk A150
            clear A150
            obtain rfl := Option.some.inj H
            go_enter Try.func21, Try.ntmps21
            go_wp2_with (first | ((with_reducible refine gate_callee (f := 10) rfl ?_); refine goesL_ (some 12) rfl rfl Try.func10 (by kernel_rfl) rfl #[.int .u16 a1] rfl (by (try simp only [List.map_toArray, List.map_cons, List.map_nil]); first | done | rfl | (simp only [List.length_drop, List.length_take]; rfl)) ?_; (with_reducible refine (num_Signed.calls a1 t101 _ A5.out).mono ?_); rintro e w' ⟨rfl, ⟨nd, rfl⟩⟩; refine ⟨_, rfl, ?_⟩) | ((with_reducible refine gate_callee (f := 10) rfl ?_); refine goesL_ (some 14) rfl rfl Try.func10 (by kernel_rfl) rfl #[.int .u16 a2] rfl (by (try simp only [List.map_toArray, List.map_cons, List.map_nil]); first | done | rfl | (simp only [List.length_drop, List.length_take]; rfl)) ?_; (with_reducible refine (num_Signed.calls a2 t102 _ A6.out).mono ?_); rintro e w' ⟨rfl, ⟨nd, rfl⟩⟩; refine ⟨_, rfl, ?_⟩) | ((with_reducible refine gate_callee (f := 12) rfl ?_); refine goesL_ (some 37) rfl rfl Try.func12 (by kernel_rfl) rfl #[.int .i64 (Int.tmod (wrap64 (a1)) (wrap64 (a2)))] rfl (by (try simp only [List.map_toArray, List.map_cons, List.map_nil]); first | done | rfl | (simp only [List.length_drop, List.length_take]; rfl)) ?_; (with_reducible refine (num_Cell.calls (Int.tmod (wrap64 (a1)) (wrap64 (a2))) t105 _ A15.out).mono ?_); rintro e w' ⟨rfl, ⟨nd, rfl⟩⟩; refine ⟨_, rfl, ?_⟩))
            go_ret
            exact ⟨by first | rfl | (simp; done) | (simp [*]; done), by repeat (first | exact Drawn0.refl _ | apply Drawn0.step)⟩
        · rw [if_neg c13] at H
          have c13b0 : (a0 == 27) = false := beq_eq_false_iff_ne.mpr c13
          have c13b1 : (a0 != 27) = true := bne_iff_ne.mpr c13
          by_cases c16 : t102 = 0
          · rw [if_pos c16] at H
            exact absurd H (by simp)
          · rw [if_neg c16] at H
            have c16b0 : (t102 == 0) = false := beq_eq_false_iff_ne.mpr c16
            have c16b1 : (t102 != 0) = true := bne_iff_ne.mpr c16
            replace H := Option.bind_eq_some_iff.mp H
            obtain ⟨t106, A170, H⟩ := H
            replace H : (some t106) = some r := H
            have A17 := Aside0.mk A170
            clear A170
            obtain rfl := Option.some.inj H
            go_enter Try.func21, Try.ntmps21
            go_wp2_with (first | ((with_reducible refine gate_callee (f := 10) rfl ?_); refine goesL_ (some 12) rfl rfl Try.func10 (by kernel_rfl) rfl #[.int .u16 a1] rfl (by (try simp only [List.map_toArray, List.map_cons, List.map_nil]); first | done | rfl | (simp only [List.length_drop, List.length_take]; rfl)) ?_; (with_reducible refine (num_Signed.calls a1 t101 _ A5.out).mono ?_); rintro e w' ⟨rfl, ⟨nd, rfl⟩⟩; refine ⟨_, rfl, ?_⟩) | ((with_reducible refine gate_callee (f := 10) rfl ?_); refine goesL_ (some 14) rfl rfl Try.func10 (by kernel_rfl) rfl #[.int .u16 a2] rfl (by (try simp only [List.map_toArray, List.map_cons, List.map_nil]); first | done | rfl | (simp only [List.length_drop, List.length_take]; rfl)) ?_; (with_reducible refine (num_Signed.calls a2 t102 _ A6.out).mono ?_); rintro e w' ⟨rfl, ⟨nd, rfl⟩⟩; refine ⟨_, rfl, ?_⟩) | ((with_reducible refine gate_callee (f := 12) rfl ?_); refine goesL_ (some 37) rfl rfl Try.func12 (by kernel_rfl) rfl #[.int .i64 (Int.tmod t101 t102)] rfl (by (try simp only [List.map_toArray, List.map_cons, List.map_nil]); first | done | rfl | (simp only [List.length_drop, List.length_take]; rfl)) ?_; (with_reducible refine (num_Cell.calls (Int.tmod t101 t102) t106 _ A17.out).mono ?_); rintro e w' ⟨rfl, ⟨nd, rfl⟩⟩; refine ⟨_, rfl, ?_⟩))
            go_ret
            exact ⟨by first | rfl | (simp; done) | (simp [*]; done), by repeat (first | exact Drawn0.refl _ | apply Drawn0.step)⟩

/-! ### num_Flag: function 14 -/
def num_Flag.f (a0 : Bool) : Option (Int) := if a0 = true then (some 65535) else (some 0)
set_option maxHeartbeats 8000000 in
set_option maxRecDepth 100000 in
theorem num_Flag.calls (a0 : Bool) (r : Int) (w : World) (h : num_Flag.f a0 = some r) :
    Calls Try.prog 14 #[.bool a0] w fun e w' => e = .returned (.int .u16 r) ∧ Drawn0 w w' := by
  have H : (if a0 = true then (some 65535) else (some 0)) = some r := h
  clear h
  by_cases c2 : a0 = true
  · subst c2
    have H1 : (some 65535) = some r := by rw [if_pos rfl] at H; exact H
    clear H
    have H := H1
    clear H1
    obtain rfl := Option.some.inj H
    go_enter Try.func14, Try.ntmps14
    go_wp2
    go_ret
    exact ⟨by first | rfl | (simp; done) | (simp [*]; done), by repeat (first | exact Drawn0.refl _ | apply Drawn0.step)⟩
  · replace c2 := Bool.eq_false_iff.mpr c2
    subst c2
    have H1 : (some 0) = some r := by rw [if_neg (show ¬ (false = true) by decide)] at H; exact H
    clear H
    have H := H1
    clear H1
    obtain rfl := Option.some.inj H
    go_enter Try.func14, Try.ntmps14
    go_wp2
    go_ret
    exact ⟨by first | rfl | (simp; done) | (simp [*]; done), by repeat (first | exact Drawn0.refl _ | apply Drawn0.step)⟩

/-! ### num_compared: function 22 -/
def num_compared.j0 : Nat → Int → Int → Option (Int × Bool)
  | 0, _, _ => none
  | k + 1, x1, x2 => (num_Signed.f x1).bind fun t111 => ((num_Signed.f x2).bind fun t112 => ((num_Flag.f (decide (t111 < t112))).bind fun t113 => (some (t113, true))))
def num_compared.f (k : Nat) (a0 : Int) (a1 : Int) (a2 : Int) : Option (Int × Bool) := if a0 = 42 then ((num_Flag.f (a1 == a2)).bind fun t107 => (some (t107, true))) else (if a0 = 43 then ((num_Flag.f (a1 != a2)).bind fun t108 => (some (t108, true))) else (if a0 = 45 then (num_compared.j0 k a2 a1) else (if a0 = 44 then (num_compared.j0 k a1 a2) else (if a0 = 47 then ((num_Flag.f (decide (a2 < a1))).bind fun t109 => (some (t109, true))) else (if a0 = 46 then ((num_Flag.f (decide (a1 < a2))).bind fun t110 => (some (t110, true))) else (if a0 = 31 then ((num_Signed.f a2).bind fun t114 => ((num_Signed.f a1).bind fun t115 => (if t114 > t115 then (some (a2, true)) else (some (a1, true))))) else (if a0 = 30 then ((num_Signed.f a2).bind fun t116 => ((num_Signed.f a1).bind fun t117 => (if t116 < t117 then (some (a2, true)) else (some (a1, true))))) else (some (0, false)))))))))
theorem num_compared.mono_l : ∀ k, (∀ y0 y1, LeO (num_compared.j0 k y0 y1) (num_compared.j0 (k + 1) y0 y1))
  | 0 => fun _ _ r h => by simp [num_compared.j0] at h
  | k + 1 => by
    have ih0 := num_compared.mono_l k
    · intro y0 y1
      unfold num_compared.j0
      repeat' first
      | (with_reducible exact ih0 _ _)
      | (with_reducible exact LeO.refl _)
      | (with_reducible exact LeO.none _)
      | (with_reducible refine LeO.ite ?_ ?_)
      | (with_reducible refine LeO.bind ?_ (fun _ => ?_))
      | exact ih0 _ _
      | exact LeO.none _
      | refine LeO.ite ?_ ?_
      | refine LeO.bind ?_ (fun _ => ?_)
theorem num_compared.mono : ∀ a0 a1 a2 k, LeO (num_compared.f k a0 a1 a2) (num_compared.f (k + 1) a0 a1 a2) := by
  intro a0 a1 a2 k
  have ih0 := num_compared.mono_l k
  unfold num_compared.f
  repeat' first
      | (with_reducible exact ih0 _ _)
      | (with_reducible exact LeO.refl _)
      | (with_reducible exact LeO.none _)
      | (with_reducible refine LeO.ite ?_ ?_)
      | (with_reducible refine LeO.bind ?_ (fun _ => ?_))
      | exact ih0 _ _
      | exact LeO.none _
      | refine LeO.ite ?_ ?_
      | refine LeO.bind ?_ (fun _ => ?_)
set_option maxHeartbeats 8000000 in
set_option maxRecDepth 100000 in
theorem num_compared.calls (k : Nat) (a0 : Int) (a1 : Int) (a2 : Int) (r1 : Int) (r2 : Bool) (w : World) (h : num_compared.f k a0 a1 a2 = some (r1, r2)) :
    Calls Try.prog 22 #[.int .i64 a0, .int .u16 a1, .int .u16 a2] w fun e w' => e = .returned (.tuple #[.int .u16 r1, .bool r2]) ∧ Drawn0 w w' := by
  have H : (if a0 = 42 then ((num_Flag.f (a1 == a2)).bind fun t107 => (some (t107, true))) else (if a0 = 43 then ((num_Flag.f (a1 != a2)).bind fun t108 => (some (t108, true))) else (if a0 = 45 then (num_compared.j0 k a2 a1) else (if a0 = 44 then (num_compared.j0 k a1 a2) else (if a0 = 47 then ((num_Flag.f (decide (a2 < a1))).bind fun t109 => (some (t109, true))) else (if a0 = 46 then ((num_Flag.f (decide (a1 < a2))).bind fun t110 => (some (t110, true))) else (if a0 = 31 then ((num_Signed.f a2).bind fun t114 => ((num_Signed.f a1).bind fun t115 => (if t114 > t115 then (some (a2, true)) else (some (a1, true))))) else (if a0 = 30 then ((num_Signed.f a2).bind fun t116 => ((num_Signed.f a1).bind fun t117 => (if t116 < t117 then (some (a2, true)) else (some (a1, true))))) else (some (0, false)))))))))) = some (r1, r2) := h
  clear h
  have HC4 := Aside0.mk H
  clear H
  go_enter Try.func22, Try.ntmps22
  go_upto_block 4 with (fail)
  go_cut [1, 2] (fun v1 v2 wc => ∃ (kq : Nat) (x1_3 : Int) (x2_3 : Int), v1 = .int .u16 x1_3 ∧ v2 = .int .u16 x2_3 ∧ Aside0 (num_compared.j0 kq x1_3 x2_3 = some (r1, r2)) ∧ Aside0 (kq ≤ k) ∧ Drawn0 w wc)
  case first =>
    have H := HC4.out
    clear HC4
    by_cases c5 : a0 = 42
    · rw [if_pos c5] at H
      have c5b0 : (a0 == 42) = true := beq_iff_eq.mpr c5
      have c5b1 : (a0 != 42) = false := bne_eq_false_iff_eq.mpr c5
      clear c5
      (first | rw [c5b0] | (simp only [i64_w, i32_w]; rw [c5b0]) | skip)
      replace H := Option.bind_eq_some_iff.mp H
      obtain ⟨t107, A60, H⟩ := H
      replace H : (some (t107, true)) = some (r1, r2) := H
      have A6 := Aside0.mk A60
      clear A60
      simp only [Option.some.injEq, Prod.mk.injEq] at H
      obtain ⟨rfl, rfl⟩ := H
      go_wp2_with (first | ((with_reducible refine gate_callee (f := 14) rfl ?_); refine goesL_ (some 28) rfl rfl Try.func14 (by kernel_rfl) rfl #[.bool (a1 == a2)] rfl (by (try simp only [List.map_toArray, List.map_cons, List.map_nil]); first | done | rfl | (simp only [List.length_drop, List.length_take]; rfl)) ?_; (with_reducible refine (num_Flag.calls (a1 == a2) t107 _ A6.out).mono ?_); rintro e w' ⟨rfl, ⟨nd, rfl⟩⟩; refine ⟨_, rfl, ?_⟩))
      go_ret2
      exact ⟨by first | rfl | (simp; done) | (simp [*]; done), by repeat (first | exact Drawn0.refl _ | apply Drawn0.step)⟩
    · rw [if_neg c5] at H
      have c5b0 : (a0 == 42) = false := beq_eq_false_iff_ne.mpr c5
      have c5b1 : (a0 != 42) = true := bne_iff_ne.mpr c5
      (first | rw [c5b0] | (simp only [i64_w, i32_w]; rw [c5b0]) | skip)
      by_cases c7 : a0 = 43
      · rw [if_pos c7] at H
        have c7b0 : (a0 == 43) = true := beq_iff_eq.mpr c7
        have c7b1 : (a0 != 43) = false := bne_eq_false_iff_eq.mpr c7
        clear c7
        replace H := Option.bind_eq_some_iff.mp H
        obtain ⟨t108, A80, H⟩ := H
        replace H : (some (t108, true)) = some (r1, r2) := H
        have A8 := Aside0.mk A80
        clear A80
        simp only [Option.some.injEq, Prod.mk.injEq] at H
        obtain ⟨rfl, rfl⟩ := H
        go_wp2_with (first | ((with_reducible refine gate_callee (f := 14) rfl ?_); refine goesL_ (some 32) rfl rfl Try.func14 (by kernel_rfl) rfl #[.bool (a1 != a2)] rfl (by (try simp only [List.map_toArray, List.map_cons, List.map_nil]); first | done | rfl | (simp only [List.length_drop, List.length_take]; rfl)) ?_; (with_reducible refine (num_Flag.calls (a1 != a2) t108 _ A8.out).mono ?_); rintro e w' ⟨rfl, ⟨nd, rfl⟩⟩; refine ⟨_, rfl, ?_⟩))
        go_ret2
        exact ⟨by first | rfl | (simp; done) | (simp [*]; done), by repeat (first | exact Drawn0.refl _ | apply Drawn0.step)⟩
      · rw [if_neg c7] at H
        have c7b0 : (a0 == 43) = false := beq_eq_false_iff_ne.mpr c7
        have c7b1 : (a0 != 43) = true := bne_iff_ne.mpr c7
        by_cases c9 : a0 = 45
        · rw [if_pos c9] at H
          have c9b0 : (a0 == 45) = true := beq_iff_eq.mpr c9
          have c9b1 : (a0 != 45) = false := bne_eq_false_iff_eq.mpr c9
          clear c9
          have H' := Aside0.mk H
          clear H
          go_wp2
          go_meet
          case rel => exact ⟨_, (a2), (a1), (by first | rfl | (simp; done) | (simp [*]; done)), (by first | rfl | (simp; done) | (simp [*]; done)), H', ⟨by first | omega | exact Nat.le_refl _⟩, by repeat (first | exact Drawn0.refl _ | apply Drawn0.step)⟩
        · rw [if_neg c9] at H
          have c9b0 : (a0 == 45) = false := beq_eq_false_iff_ne.mpr c9
          have c9b1 : (a0 != 45) = true := bne_iff_ne.mpr c9
          by_cases c10 : a0 = 44
          · rw [if_pos c10] at H
            have c10b0 : (a0 == 44) = true := beq_iff_eq.mpr c10
            have c10b1 : (a0 != 44) = false := bne_eq_false_iff_eq.mpr c10
            clear c10
            have H' := Aside0.mk H
            clear H
            go_wp2
            go_meet
            case rel => exact ⟨_, (a1), (a2), (by first | rfl | (simp; done) | (simp [*]; done)), (by first | rfl | (simp; done) | (simp [*]; done)), H', ⟨by first | omega | exact Nat.le_refl _⟩, by repeat (first | exact Drawn0.refl _ | apply Drawn0.step)⟩
          · rw [if_neg c10] at H
            have c10b0 : (a0 == 44) = false := beq_eq_false_iff_ne.mpr c10
            have c10b1 : (a0 != 44) = true := bne_iff_ne.mpr c10
            by_cases c11 : a0 = 47
            · rw [if_pos c11] at H
              have c11b0 : (a0 == 47) = true := beq_iff_eq.mpr c11
              have c11b1 : (a0 != 47) = false := bne_eq_false_iff_eq.mpr c11
              clear c11
              replace H := Option.bind_eq_some_iff.mp H
              obtain ⟨t109, A120, H⟩ := H
              replace H : (some (t109, true)) = some (r1, r2) := H
              have A12 := Aside0.mk A120
              clear A120
              simp only [Option.some.injEq, Prod.mk.injEq] at H
              obtain ⟨rfl, rfl⟩ := H
              go_wp2_with (first | ((with_reducible refine gate_callee (f := 14) rfl ?_); refine goesL_ (some 46) rfl rfl Try.func14 (by kernel_rfl) rfl #[.bool (decide (a2 < a1))] rfl (by (try simp only [List.map_toArray, List.map_cons, List.map_nil]); first | done | rfl | (simp only [List.length_drop, List.length_take]; rfl)) ?_; (with_reducible refine (num_Flag.calls (decide (a2 < a1)) t109 _ A12.out).mono ?_); rintro e w' ⟨rfl, ⟨nd, rfl⟩⟩; refine ⟨_, rfl, ?_⟩))
              go_ret2
              exact ⟨by first | rfl | (simp; done) | (simp [*]; done), by repeat (first | exact Drawn0.refl _ | apply Drawn0.step)⟩
            · rw [if_neg c11] at H
              have c11b0 : (a0 == 47) = false := beq_eq_false_iff_ne.mpr c11
              have c11b1 : (a0 != 47) = true := bne_iff_ne.mpr c11
              by_cases c13 : a0 = 46
              · rw [if_pos c13] at H
                have c13b0 : (a0 == 46) = true := beq_iff_eq.mpr c13
                have c13b1 : (a0 != 46) = false := bne_eq_false_iff_eq.mpr c13
                clear c13
                replace H := Option.bind_eq_some_iff.mp H
                obtain ⟨t110, A140, H⟩ := H
                replace H : (some (t110, true)) = some (r1, r2) := H
                have A14 := Aside0.mk A140
                clear A140
                simp only [Option.some.injEq, Prod.mk.injEq] at H
                obtain ⟨rfl, rfl⟩ := H
                go_wp2_with (first | ((with_reducible refine gate_callee (f := 14) rfl ?_); refine goesL_ (some 46) rfl rfl Try.func14 (by kernel_rfl) rfl #[.bool (decide (a1 < a2))] rfl (by (try simp only [List.map_toArray, List.map_cons, List.map_nil]); first | done | rfl | (simp only [List.length_drop, List.length_take]; rfl)) ?_; (with_reducible refine (num_Flag.calls (decide (a1 < a2)) t110 _ A14.out).mono ?_); rintro e w' ⟨rfl, ⟨nd, rfl⟩⟩; refine ⟨_, rfl, ?_⟩))
                go_ret2
                exact ⟨by first | rfl | (simp; done) | (simp [*]; done), by repeat (first | exact Drawn0.refl _ | apply Drawn0.step)⟩
              · rw [if_neg c13] at H
                have c13b0 : (a0 == 46) = false := beq_eq_false_iff_ne.mpr c13
                have c13b1 : (a0 != 46) = true := bne_iff_ne.mpr c13
                by_cases c15 : a0 = 31
                · rw [if_pos c15] at H
                  have c15b0 : (a0 == 31) = true := beq_iff_eq.mpr c15
                  have c15b1 : (a0 != 31) = false := bne_eq_false_iff_eq.mpr c15
                  clear c15
                  replace H := Option.bind_eq_some_iff.mp H
                  obtain ⟨t114, A160, H⟩ := H
                  replace H : ((num_Signed.f a1).bind fun t115 => (if t114 > t115 then (some (a2, true)) else (some (a1, true)))) = some (r1, r2) := H
                  have A16 := Aside0.mk A160
                  clear A160
                  replace H := Option.bind_eq_some_iff.mp H
                  obtain ⟨t115, A170, H⟩ := H
                  replace H : (if t114 > t115 then (some (a2, true)) else (some (a1, true))) = some (r1, r2) := H
                  have A17 := Aside0.mk A170
                  clear A170
                  by_cases c18 : t114 > t115
                  · rw [if_pos c18] at H
                    have c18b0 : decide (t115 < t114) = true := decide_eq_true c18
                    clear c18
                    simp only [Option.some.injEq, Prod.mk.injEq] at H
                    obtain ⟨rfl, rfl⟩ := H
                    go_wp2_with (first | ((with_reducible refine gate_callee (f := 10) rfl ?_); refine goesL_ (some 50) rfl rfl Try.func10 (by kernel_rfl) rfl #[.int .u16 a2] rfl (by (try simp only [List.map_toArray, List.map_cons, List.map_nil]); first | done | rfl | (simp only [List.length_drop, List.length_take]; rfl)) ?_; (with_reducible refine (num_Signed.calls a2 t114 _ A16.out).mono ?_); rintro e w' ⟨rfl, ⟨nd, rfl⟩⟩; refine ⟨_, rfl, ?_⟩) | ((with_reducible refine gate_callee (f := 10) rfl ?_); refine goesL_ (some 52) rfl rfl Try.func10 (by kernel_rfl) rfl #[.int .u16 a1] rfl (by (try simp only [List.map_toArray, List.map_cons, List.map_nil]); first | done | rfl | (simp only [List.length_drop, List.length_take]; rfl)) ?_; (with_reducible refine (num_Signed.calls a1 t115 _ A17.out).mono ?_); rintro e w' ⟨rfl, ⟨nd, rfl⟩⟩; refine ⟨_, rfl, ?_⟩))
                    go_ret2
                    exact ⟨by first | rfl | (simp; done) | (simp [*]; done), by repeat (first | exact Drawn0.refl _ | apply Drawn0.step)⟩
                  · rw [if_neg c18] at H
                    have c18b0 : decide (t115 < t114) = false := decide_eq_false c18
                    clear c18
                    simp only [Option.some.injEq, Prod.mk.injEq] at H
                    obtain ⟨rfl, rfl⟩ := H
                    go_wp2_with (first | ((with_reducible refine gate_callee (f := 10) rfl ?_); refine goesL_ (some 50) rfl rfl Try.func10 (by kernel_rfl) rfl #[.int .u16 a2] rfl (by (try simp only [List.map_toArray, List.map_cons, List.map_nil]); first | done | rfl | (simp only [List.length_drop, List.length_take]; rfl)) ?_; (with_reducible refine (num_Signed.calls a2 t114 _ A16.out).mono ?_); rintro e w' ⟨rfl, ⟨nd, rfl⟩⟩; refine ⟨_, rfl, ?_⟩) | ((with_reducible refine gate_callee (f := 10) rfl ?_); refine goesL_ (some 52) rfl rfl Try.func10 (by kernel_rfl) rfl #[.int .u16 a1] rfl (by (try simp only [List.map_toArray, List.map_cons, List.map_nil]); first | done | rfl | (simp only [List.length_drop, List.length_take]; rfl)) ?_; (with_reducible refine (num_Signed.calls a1 t115 _ A17.out).mono ?_); rintro e w' ⟨rfl, ⟨nd, rfl⟩⟩; refine ⟨_, rfl, ?_⟩))
                    go_ret2
                    exact ⟨by first | rfl | (simp; done) | (simp [*]; done), by repeat (first | exact Drawn0.refl _ | apply Drawn0.step)⟩
                · rw [if_neg c15] at H
                  have c15b0 : (a0 == 31) = false := beq_eq_false_iff_ne.mpr c15
                  have c15b1 : (a0 != 31) = true := bne_iff_ne.mpr c15
                  by_cases c19 : a0 = 30
                  · rw [if_pos c19] at H
                    have c19b0 : (a0 == 30) = true := beq_iff_eq.mpr c19
                    have c19b1 : (a0 != 30) = false := bne_eq_false_iff_eq.mpr c19
                    clear c19
                    replace H := Option.bind_eq_some_iff.mp H
                    obtain ⟨t116, A200, H⟩ := H
                    replace H : ((num_Signed.f a1).bind fun t117 => (if t116 < t117 then (some (a2, true)) else (some (a1, true)))) = some (r1, r2) := H
                    have A20 := Aside0.mk A200
                    clear A200
                    replace H := Option.bind_eq_some_iff.mp H
                    obtain ⟨t117, A210, H⟩ := H
                    replace H : (if t116 < t117 then (some (a2, true)) else (some (a1, true))) = some (r1, r2) := H
                    have A21 := Aside0.mk A210
                    clear A210
                    by_cases c22 : t116 < t117
                    · rw [if_pos c22] at H
                      have c22b0 : decide (t116 < t117) = true := decide_eq_true c22
                      clear c22
                      simp only [Option.some.injEq, Prod.mk.injEq] at H
                      obtain ⟨rfl, rfl⟩ := H
                      go_wp2_with (first | ((with_reducible refine gate_callee (f := 10) rfl ?_); refine goesL_ (some 57) rfl rfl Try.func10 (by kernel_rfl) rfl #[.int .u16 a2] rfl (by (try simp only [List.map_toArray, List.map_cons, List.map_nil]); first | done | rfl | (simp only [List.length_drop, List.length_take]; rfl)) ?_; (with_reducible refine (num_Signed.calls a2 t116 _ A20.out).mono ?_); rintro e w' ⟨rfl, ⟨nd, rfl⟩⟩; refine ⟨_, rfl, ?_⟩) | ((with_reducible refine gate_callee (f := 10) rfl ?_); refine goesL_ (some 59) rfl rfl Try.func10 (by kernel_rfl) rfl #[.int .u16 a1] rfl (by (try simp only [List.map_toArray, List.map_cons, List.map_nil]); first | done | rfl | (simp only [List.length_drop, List.length_take]; rfl)) ?_; (with_reducible refine (num_Signed.calls a1 t117 _ A21.out).mono ?_); rintro e w' ⟨rfl, ⟨nd, rfl⟩⟩; refine ⟨_, rfl, ?_⟩))
                      go_ret2
                      exact ⟨by first | rfl | (simp; done) | (simp [*]; done), by repeat (first | exact Drawn0.refl _ | apply Drawn0.step)⟩
                    · rw [if_neg c22] at H
                      have c22b0 : decide (t116 < t117) = false := decide_eq_false c22
                      clear c22
                      simp only [Option.some.injEq, Prod.mk.injEq] at H
                      obtain ⟨rfl, rfl⟩ := H
                      go_wp2_with (first | ((with_reducible refine gate_callee (f := 10) rfl ?_); refine goesL_ (some 57) rfl rfl Try.func10 (by kernel_rfl) rfl #[.int .u16 a2] rfl (by (try simp only [List.map_toArray, List.map_cons, List.map_nil]); first | done | rfl | (simp only [List.length_drop, List.length_take]; rfl)) ?_; (with_reducible refine (num_Signed.calls a2 t116 _ A20.out).mono ?_); rintro e w' ⟨rfl, ⟨nd, rfl⟩⟩; refine ⟨_, rfl, ?_⟩) | ((with_reducible refine gate_callee (f := 10) rfl ?_); refine goesL_ (some 59) rfl rfl Try.func10 (by kernel_rfl) rfl #[.int .u16 a1] rfl (by (try simp only [List.map_toArray, List.map_cons, List.map_nil]); first | done | rfl | (simp only [List.length_drop, List.length_take]; rfl)) ?_; (with_reducible refine (num_Signed.calls a1 t117 _ A21.out).mono ?_); rintro e w' ⟨rfl, ⟨nd, rfl⟩⟩; refine ⟨_, rfl, ?_⟩))
                      go_ret2
                      exact ⟨by first | rfl | (simp; done) | (simp [*]; done), by repeat (first | exact Drawn0.refl _ | apply Drawn0.step)⟩
                  · rw [if_neg c19] at H
                    have c19b0 : (a0 == 30) = false := beq_eq_false_iff_ne.mpr c19
                    have c19b1 : (a0 != 30) = true := bne_iff_ne.mpr c19
                    simp only [Option.some.injEq, Prod.mk.injEq] at H
                    obtain ⟨rfl, rfl⟩ := H
                    go_wp2
                    go_ret2
                    exact ⟨by first | rfl | (simp; done) | (simp [*]; done), by repeat (first | exact Drawn0.refl _ | apply Drawn0.step)⟩
  case rest =>
    clear HC4
    try clear c1
    try clear c2
    try clear p2
    try clear c5
    try clear c5b0
    try clear c5b1
    try clear c7
    try clear c7b0
    try clear c7b1
    try clear c9
    try clear c9b0
    try clear c9b1
    try clear c10
    try clear c10b0
    try clear c10b1
    try clear c11
    try clear c11b0
    try clear c11b1
    try clear c13
    try clear c13b0
    try clear c13b1
    try clear c14
    try clear c15
    try clear c15b0
    try clear c15b1
    try clear c18
    try clear c18b0
    try clear c19
    try clear c19b0
    try clear c19b1
    try clear c22
    try clear c22b0
    obtain ⟨kq, x1_3, x2_3, rfl, rfl, HA, HJ3, ⟨mc3, rfl⟩⟩ := hcut
    cases kq with
    | zero => exact absurd HA.out (by simp [num_compared.j0])
    | succ kj3 =>
      have H := HA.out
      clear HA
      simp only [num_compared.j0] at H
      replace H := Option.bind_eq_some_iff.mp H
      obtain ⟨t111, A230, H⟩ := H
      replace H : ((num_Signed.f x2_3).bind fun t112 => ((num_Flag.f (decide (t111 < t112))).bind fun t113 => (some (t113, true)))) = some (r1, r2) := H
      have A23 := Aside0.mk A230
      clear A230
      replace H := Option.bind_eq_some_iff.mp H
      obtain ⟨t112, A240, H⟩ := H
      replace H : ((num_Flag.f (decide (t111 < t112))).bind fun t113 => (some (t113, true))) = some (r1, r2) := H
      have A24 := Aside0.mk A240
      clear A240
      replace H := Option.bind_eq_some_iff.mp H
      obtain ⟨t113, A250, H⟩ := H
      replace H : (some (t113, true)) = some (r1, r2) := H
      have A25 := Aside0.mk A250
      clear A250
      simp only [Option.some.injEq, Prod.mk.injEq] at H
      obtain ⟨rfl, rfl⟩ := H
      go_wp2_with (first | ((with_reducible refine gate_callee (f := 10) rfl ?_); refine goesL_ (some 36) rfl rfl Try.func10 (by kernel_rfl) rfl #[.int .u16 x1_3] rfl (by (try simp only [List.map_toArray, List.map_cons, List.map_nil]); first | done | rfl | (simp only [List.length_drop, List.length_take]; rfl)) ?_; (with_reducible refine (num_Signed.calls x1_3 t111 _ A23.out).mono ?_); rintro e w' ⟨rfl, ⟨nd, rfl⟩⟩; refine ⟨_, rfl, ?_⟩) | ((with_reducible refine gate_callee (f := 10) rfl ?_); refine goesL_ (some 38) rfl rfl Try.func10 (by kernel_rfl) rfl #[.int .u16 x2_3] rfl (by (try simp only [List.map_toArray, List.map_cons, List.map_nil]); first | done | rfl | (simp only [List.length_drop, List.length_take]; rfl)) ?_; (with_reducible refine (num_Signed.calls x2_3 t112 _ A24.out).mono ?_); rintro e w' ⟨rfl, ⟨nd, rfl⟩⟩; refine ⟨_, rfl, ?_⟩) | ((with_reducible refine gate_callee (f := 14) rfl ?_); refine goesL_ (some 40) rfl rfl Try.func14 (by kernel_rfl) rfl #[.bool (decide (t111 < t112))] rfl (by (try simp only [List.map_toArray, List.map_cons, List.map_nil]); first | done | rfl | (simp only [List.length_drop, List.length_take]; rfl)) ?_; (with_reducible refine (num_Flag.calls (decide (t111 < t112)) t113 _ A25.out).mono ?_); rintro e w' ⟨rfl, ⟨nd, rfl⟩⟩; refine ⟨_, rfl, ?_⟩))
      go_ret2
      exact ⟨by first | rfl | (simp; done) | (simp [*]; done), by repeat (first | exact Drawn0.refl _ | apply Drawn0.step)⟩

/-! ### num_Binary: function 7 -/
def num_Binary.j0 : Nat → Int → Int → Int → Int → Bool → Option (Int × Bool)
  | 0, _, _, _, _, _ => none
  | k + 1, x0, x1, x2, x8, x15 => if x15 = true then ((num_divided.f x0 x1 x2).bind fun t118 => (some (t118, true))) else (if x8 = 36 then (some (Go.bits .and .u16 x1 x2, true)) else (if x8 = 37 then (some (Go.bits .or .u16 x1 x2, true)) else (if x8 = 38 then (some (Go.bits .xor .u16 x1 x2, true)) else (if x8 = 40 then (if 0 ≤ x2 then (some (shl .u16 x1 x2, true)) else (none)) else (if x8 = 41 then (if 0 ≤ x2 then (some (shr .u16 x1 x2, true)) else (none)) else ((num_compared.f k x0 x1 x2).bind fun bt119 => (some (bt119.1, bt119.2))))))))
def num_Binary.f (k : Nat) (a0 : Int) (a1 : Int) (a2 : Int) : Option (Int × Bool) := if a0 = 22 then (some (IntKind.u16.wrap (a1 + (IntKind.u16.wrap (-a2))), true)) else (if a0 = 21 then (some (IntKind.u16.wrap (a1 + a2), true)) else (if a0 = 23 then (some (IntKind.u16.wrap (a1 * a2), true)) else (if a0 = 24 then (num_Binary.j0 k a0 a1 a2 a0 (a0 == 24)) else (if a0 = 25 then (num_Binary.j0 k a0 a1 a2 a0 (a0 == 25)) else (if a0 = 26 then (num_Binary.j0 k a0 a1 a2 a0 (a0 == 26)) else (num_Binary.j0 k a0 a1 a2 a0 (a0 == 27)))))))
theorem num_Binary.mono_l : ∀ k, (∀ y0 y1 y2 y3 y4, LeO (num_Binary.j0 k y0 y1 y2 y3 y4) (num_Binary.j0 (k + 1) y0 y1 y2 y3 y4))
  | 0 => fun _ _ _ _ _ r h => by simp [num_Binary.j0] at h
  | k + 1 => by
    have ih0 := num_Binary.mono_l k
    · intro y0 y1 y2 y3 y4
      unfold num_Binary.j0
      repeat' first
      | (with_reducible exact ih0 _ _ _ _ _)
      | (with_reducible exact num_compared.mono _ _ _ _)
      | (with_reducible exact LeO.refl _)
      | (with_reducible exact LeO.none _)
      | (with_reducible refine LeO.ite ?_ ?_)
      | (with_reducible refine LeO.bind ?_ (fun _ => ?_))
      | exact ih0 _ _ _ _ _
      | exact num_compared.mono _ _ _ _
      | exact LeO.none _
      | refine LeO.ite ?_ ?_
      | refine LeO.bind ?_ (fun _ => ?_)
theorem num_Binary.mono : ∀ a0 a1 a2 k, LeO (num_Binary.f k a0 a1 a2) (num_Binary.f (k + 1) a0 a1 a2) := by
  intro a0 a1 a2 k
  have ih0 := num_Binary.mono_l k
  unfold num_Binary.f
  repeat' first
      | (with_reducible exact ih0 _ _ _ _ _)
      | (with_reducible exact num_compared.mono _ _ _ _)
      | (with_reducible exact LeO.refl _)
      | (with_reducible exact LeO.none _)
      | (with_reducible refine LeO.ite ?_ ?_)
      | (with_reducible refine LeO.bind ?_ (fun _ => ?_))
      | exact ih0 _ _ _ _ _
      | exact num_compared.mono _ _ _ _
      | exact LeO.none _
      | refine LeO.ite ?_ ?_
      | refine LeO.bind ?_ (fun _ => ?_)
set_option maxHeartbeats 8000000 in
set_option maxRecDepth 100000 in
theorem num_Binary.calls (k : Nat) (a0 : Int) (a1 : Int) (a2 : Int) (r1 : Int) (r2 : Bool) (w : World) (h : num_Binary.f k a0 a1 a2 = some (r1, r2)) :
    Calls Try.prog 7 #[.int .i64 a0, .int .u16 a1, .int .u16 a2] w fun e w' => e = .returned (.tuple #[.int .u16 r1, .bool r2]) ∧ Drawn0 w w' := by
  have H : (if a0 = 22 then (some (IntKind.u16.wrap (a1 + (IntKind.u16.wrap (-a2))), true)) else (if a0 = 21 then (some (IntKind.u16.wrap (a1 + a2), true)) else (if a0 = 23 then (some (IntKind.u16.wrap (a1 * a2), true)) else (if a0 = 24 then (num_Binary.j0 k a0 a1 a2 a0 (a0 == 24)) else (if a0 = 25 then (num_Binary.j0 k a0 a1 a2 a0 (a0 == 25)) else (if a0 = 26 then (num_Binary.j0 k a0 a1 a2 a0 (a0 == 26)) else (num_Binary.j0 k a0 a1 a2 a0 (a0 == 27)))))))) = some (r1, r2) := h
  clear h
  by_cases c4 : a0 = 22
  · rw [if_pos c4] at H
    have c4b0 : (a0 == 22) = true := beq_iff_eq.mpr c4
    have c4b1 : (a0 != 22) = false := bne_eq_false_iff_eq.mpr c4
    clear c4
    simp only [Option.some.injEq, Prod.mk.injEq] at H
    obtain ⟨rfl, rfl⟩ := H
    go_enter Try.func7, Try.ntmps7
    go_wp2
    go_ret2
    exact ⟨by first | rfl | (simp; done) | (simp [*]; done), by repeat (first | exact Drawn0.refl _ | apply Drawn0.step)⟩
  · rw [if_neg c4] at H
    have c4b0 : (a0 == 22) = false := beq_eq_false_iff_ne.mpr c4
    have c4b1 : (a0 != 22) = true := bne_iff_ne.mpr c4
    by_cases c5 : a0 = 21
    · rw [if_pos c5] at H
      have c5b0 : (a0 == 21) = true := beq_iff_eq.mpr c5
      have c5b1 : (a0 != 21) = false := bne_eq_false_iff_eq.mpr c5
      clear c5
      simp only [Option.some.injEq, Prod.mk.injEq] at H
      obtain ⟨rfl, rfl⟩ := H
      go_enter Try.func7, Try.ntmps7
      go_wp2
      go_ret2
      exact ⟨by first | rfl | (simp; done) | (simp [*]; done), by repeat (first | exact Drawn0.refl _ | apply Drawn0.step)⟩
    · rw [if_neg c5] at H
      have c5b0 : (a0 == 21) = false := beq_eq_false_iff_ne.mpr c5
      have c5b1 : (a0 != 21) = true := bne_iff_ne.mpr c5
      by_cases c6 : a0 = 23
      · rw [if_pos c6] at H
        have c6b0 : (a0 == 23) = true := beq_iff_eq.mpr c6
        have c6b1 : (a0 != 23) = false := bne_eq_false_iff_eq.mpr c6
        clear c6
        simp only [Option.some.injEq, Prod.mk.injEq] at H
        obtain ⟨rfl, rfl⟩ := H
        go_enter Try.func7, Try.ntmps7
        go_wp2
        go_ret2
        exact ⟨by first | rfl | (simp; done) | (simp [*]; done), by repeat (first | exact Drawn0.refl _ | apply Drawn0.step)⟩
      · rw [if_neg c6] at H
        have c6b0 : (a0 == 23) = false := beq_eq_false_iff_ne.mpr c6
        have c6b1 : (a0 != 23) = true := bne_iff_ne.mpr c6
        have HC7 := Aside0.mk H
        clear H
        go_enter Try.func7, Try.ntmps7
        go_upto_if 15 with (fail)
        go_cut [15] (fun v15 wc => ∃ (kq : Nat) (x15_6 : Bool), v15 = .bool x15_6 ∧ Aside0 (num_Binary.j0 kq a0 a1 a2 a0 x15_6 = some (r1, r2)) ∧ Aside0 (kq ≤ k) ∧ Drawn0 w wc)
        case first =>
          have H := HC7.out
          clear HC7
          by_cases c8 : a0 = 24
          · rw [if_pos c8] at H
            have c8b0 : (a0 == 24) = true := beq_iff_eq.mpr c8
            have c8b1 : (a0 != 24) = false := bne_eq_false_iff_eq.mpr c8
            clear c8
            (first | rw [c8b0] | (simp only [i64_w, i32_w]; rw [c8b0]) | skip)
            have H' := Aside0.mk H
            clear H
            go_wp2
            go_meet
            case rel => exact ⟨_, ((a0 == 24)), (by first | rfl | (simp; done) | (simp [*]; done)), H', ⟨by first | omega | exact Nat.le_refl _⟩, by repeat (first | exact Drawn0.refl _ | apply Drawn0.step)⟩
          · rw [if_neg c8] at H
            have c8b0 : (a0 == 24) = false := beq_eq_false_iff_ne.mpr c8
            have c8b1 : (a0 != 24) = true := bne_iff_ne.mpr c8
            (first | rw [c8b0] | (simp only [i64_w, i32_w]; rw [c8b0]) | skip)
            by_cases c9 : a0 = 25
            · rw [if_pos c9] at H
              have c9b0 : (a0 == 25) = true := beq_iff_eq.mpr c9
              have c9b1 : (a0 != 25) = false := bne_eq_false_iff_eq.mpr c9
              clear c9
              have H' := Aside0.mk H
              clear H
              go_wp2
              go_meet
              case rel => exact ⟨_, ((a0 == 25)), (by first | rfl | (simp; done) | (simp [*]; done)), H', ⟨by first | omega | exact Nat.le_refl _⟩, by repeat (first | exact Drawn0.refl _ | apply Drawn0.step)⟩
            · rw [if_neg c9] at H
              have c9b0 : (a0 == 25) = false := beq_eq_false_iff_ne.mpr c9
              have c9b1 : (a0 != 25) = true := bne_iff_ne.mpr c9
              by_cases c10 : a0 = 26
              · rw [if_pos c10] at H
                have c10b0 : (a0 == 26) = true := beq_iff_eq.mpr c10
                have c10b1 : (a0 != 26) = false := bne_eq_false_iff_eq.mpr c10
                clear c10
                have H' := Aside0.mk H
                clear H
                go_wp2
                go_meet
                case rel => exact ⟨_, ((a0 == 26)), (by first | rfl | (simp; done) | (simp [*]; done)), H', ⟨by first | omega | exact Nat.le_refl _⟩, by repeat (first | exact Drawn0.refl _ | apply Drawn0.step)⟩
              · rw [if_neg c10] at H
                have c10b0 : (a0 == 26) = false := beq_eq_false_iff_ne.mpr c10
                have c10b1 : (a0 != 26) = true := bne_iff_ne.mpr c10
                have H' := Aside0.mk H
                clear H
                go_wp2
                go_meet
                case rel => exact ⟨_, ((a0 == 27)), (by first | rfl | (simp; done) | (simp [*]; done)), H', ⟨by first | omega | exact Nat.le_refl _⟩, by repeat (first | exact Drawn0.refl _ | apply Drawn0.step)⟩
        case rest =>
          clear HC7
          try clear c1
          try clear p2
          try clear c4
          try clear c4b0
          try clear c4b1
          try clear c5
          try clear c5b0
          try clear c5b1
          try clear c6
          try clear c6b0
          try clear c6b1
          try clear c7
          try clear c8
          try clear c8b0
          try clear c8b1
          try clear c9
          try clear c9b0
          try clear c9b1
          try clear c10
          try clear c10b0
          try clear c10b1
          obtain ⟨kq, x15_6, rfl, HA, HJ6, ⟨mc6, rfl⟩⟩ := hcut
          cases kq with
          | zero => exact absurd HA.out (by simp [num_Binary.j0])
          | succ kj6 =>
            have H := HA.out
            clear HA
            simp only [num_Binary.j0] at H
            by_cases c11 : x15_6 = true
            · subst c11
              have H1 : ((num_divided.f a0 a1 a2).bind fun t118 => (some (t118, true))) = some (r1, r2) := by rw [if_pos rfl] at H; exact H
              clear H
              have H := H1
              clear H1
              replace H := Option.bind_eq_some_iff.mp H
              obtain ⟨t118, A120, H⟩ := H
              replace H : (some (t118, true)) = some (r1, r2) := H
              have A12 := Aside0.mk A120
              clear A120
              simp only [Option.some.injEq, Prod.mk.injEq] at H
              obtain ⟨rfl, rfl⟩ := H
              go_wp2_with (first | ((with_reducible refine gate_callee (f := 21) rfl ?_); refine goesL_ (some 41) rfl rfl Try.func21 (by kernel_rfl) rfl #[.int .i64 a0, .int .u16 a1, .int .u16 a2] rfl (by (try simp only [List.map_toArray, List.map_cons, List.map_nil]); first | done | rfl | (simp only [List.length_drop, List.length_take]; rfl)) ?_; (with_reducible refine (num_divided.calls a0 a1 a2 t118 _ A12.out).mono ?_); rintro e w' ⟨rfl, ⟨nd, rfl⟩⟩; refine ⟨_, rfl, ?_⟩))
              go_ret2
              exact ⟨by first | rfl | (simp; done) | (simp [*]; done), by repeat (first | exact Drawn0.refl _ | apply Drawn0.step)⟩
            · replace c11 := Bool.eq_false_iff.mpr c11
              subst c11
              have H1 : (if a0 = 36 then (some (Go.bits .and .u16 a1 a2, true)) else (if a0 = 37 then (some (Go.bits .or .u16 a1 a2, true)) else (if a0 = 38 then (some (Go.bits .xor .u16 a1 a2, true)) else (if a0 = 40 then (if 0 ≤ a2 then (some (shl .u16 a1 a2, true)) else (none)) else (if a0 = 41 then (if 0 ≤ a2 then (some (shr .u16 a1 a2, true)) else (none)) else ((num_compared.f kj6 a0 a1 a2).bind fun bt119 => (some (bt119.1, bt119.2)))))))) = some (r1, r2) := by rw [if_neg (show ¬ (false = true) by decide)] at H; exact H
              clear H
              have H := H1
              clear H1
              by_cases c13 : a0 = 36
              · rw [if_pos c13] at H
                have c13b0 : (a0 == 36) = true := beq_iff_eq.mpr c13
                have c13b1 : (a0 != 36) = false := bne_eq_false_iff_eq.mpr c13
                clear c13
                simp only [Option.some.injEq, Prod.mk.injEq] at H
                obtain ⟨rfl, rfl⟩ := H
                go_wp2
                go_ret2
                exact ⟨by first | rfl | (simp; done) | (simp [*]; done), by repeat (first | exact Drawn0.refl _ | apply Drawn0.step)⟩
              · rw [if_neg c13] at H
                have c13b0 : (a0 == 36) = false := beq_eq_false_iff_ne.mpr c13
                have c13b1 : (a0 != 36) = true := bne_iff_ne.mpr c13
                by_cases c14 : a0 = 37
                · rw [if_pos c14] at H
                  have c14b0 : (a0 == 37) = true := beq_iff_eq.mpr c14
                  have c14b1 : (a0 != 37) = false := bne_eq_false_iff_eq.mpr c14
                  clear c14
                  simp only [Option.some.injEq, Prod.mk.injEq] at H
                  obtain ⟨rfl, rfl⟩ := H
                  go_wp2
                  go_ret2
                  exact ⟨by first | rfl | (simp; done) | (simp [*]; done), by repeat (first | exact Drawn0.refl _ | apply Drawn0.step)⟩
                · rw [if_neg c14] at H
                  have c14b0 : (a0 == 37) = false := beq_eq_false_iff_ne.mpr c14
                  have c14b1 : (a0 != 37) = true := bne_iff_ne.mpr c14
                  by_cases c15 : a0 = 38
                  · rw [if_pos c15] at H
                    have c15b0 : (a0 == 38) = true := beq_iff_eq.mpr c15
                    have c15b1 : (a0 != 38) = false := bne_eq_false_iff_eq.mpr c15
                    clear c15
                    simp only [Option.some.injEq, Prod.mk.injEq] at H
                    obtain ⟨rfl, rfl⟩ := H
                    go_wp2
                    go_ret2
                    exact ⟨by first | rfl | (simp; done) | (simp [*]; done), by repeat (first | exact Drawn0.refl _ | apply Drawn0.step)⟩
                  · rw [if_neg c15] at H
                    have c15b0 : (a0 == 38) = false := beq_eq_false_iff_ne.mpr c15
                    have c15b1 : (a0 != 38) = true := bne_iff_ne.mpr c15
                    by_cases c16 : a0 = 40
                    · rw [if_pos c16] at H
                      have c16b0 : (a0 == 40) = true := beq_iff_eq.mpr c16
                      have c16b1 : (a0 != 40) = false := bne_eq_false_iff_eq.mpr c16
                      clear c16
                      by_cases c17 : 0 ≤ a2
                      · rw [if_pos c17] at H
                        have c17b0 := eq_true c17
                        have c17b1 : decide (0 ≤ a2) = true := decide_eq_true c17
                        clear c17
                        obtain ⟨ji18, hji18⟩ : ∃ j_ : Int, (shl .u16 a1 a2) = j_ := ⟨_, rfl⟩
                        replace H : (some (ji18, true)) = some (r1, r2) := by first | (rw [hji18] at H; exact H) | (simp only [hji18] at H ⊢; exact H)
                        have hji18_ : (IntKind.u16.wrap (a1 * 2 ^ min a2.toNat 16)) = ji18 := hji18
                        have hji18z : a2 ≤ 16 → (IntKind.u16.wrap (a1 * 2 ^ a2.toNat)) = ji18 := shl_small hji18
                        simp only [Option.some.injEq, Prod.mk.injEq] at H
                        obtain ⟨rfl, rfl⟩ := H
                        go_wp2
                        go_ret2
                        exact ⟨by first | rfl | (simp; done) | (simp only [← hji18] <;> (first | rfl | simp)) | (simp [*]; done), by repeat (first | exact Drawn0.refl _ | apply Drawn0.step)⟩
                      · rw [if_neg c17] at H
                        exact absurd H (by simp)
                    · rw [if_neg c16] at H
                      have c16b0 : (a0 == 40) = false := beq_eq_false_iff_ne.mpr c16
                      have c16b1 : (a0 != 40) = true := bne_iff_ne.mpr c16
                      by_cases c19 : a0 = 41
                      · rw [if_pos c19] at H
                        have c19b0 : (a0 == 41) = true := beq_iff_eq.mpr c19
                        have c19b1 : (a0 != 41) = false := bne_eq_false_iff_eq.mpr c19
                        clear c19
                        by_cases c20 : 0 ≤ a2
                        · rw [if_pos c20] at H
                          have c20b0 := eq_true c20
                          have c20b1 : decide (0 ≤ a2) = true := decide_eq_true c20
                          clear c20
                          obtain ⟨ji21, hji21⟩ : ∃ j_ : Int, (shr .u16 a1 a2) = j_ := ⟨_, rfl⟩
                          replace H : (some (ji21, true)) = some (r1, r2) := by first | (rw [hji21] at H; exact H) | (simp only [hji21] at H ⊢; exact H)
                          have hji21_ : (a1 / 2 ^ min a2.toNat 16) = ji21 := hji21
                          have hji21z : a2 ≤ 16 → (a1 / 2 ^ a2.toNat) = ji21 := shr_small hji21
                          simp only [Option.some.injEq, Prod.mk.injEq] at H
                          obtain ⟨rfl, rfl⟩ := H
                          go_wp2
                          go_ret2
                          exact ⟨by first | rfl | (simp; done) | (simp only [← hji21] <;> (first | rfl | simp)) | (simp [*]; done), by repeat (first | exact Drawn0.refl _ | apply Drawn0.step)⟩
                        · rw [if_neg c20] at H
                          exact absurd H (by simp)
                      · rw [if_neg c19] at H
                        have c19b0 : (a0 == 41) = false := beq_eq_false_iff_ne.mpr c19
                        have c19b1 : (a0 != 41) = true := bne_iff_ne.mpr c19
                        replace H := Option.bind_eq_some_iff.mp H
                        obtain ⟨⟨t119, t120⟩, A220, H⟩ := H
                        replace H : (some (t119, t120)) = some (r1, r2) := H
                        have A22 := Aside0.mk A220
                        clear A220
                        simp only [Option.some.injEq, Prod.mk.injEq] at H
                        obtain ⟨rfl, rfl⟩ := H
                        go_wp2_with (first | ((with_reducible refine gate_callee (f := 22) rfl ?_); refine goesL_ (some 60) rfl rfl Try.func22 (by kernel_rfl) rfl #[.int .i64 a0, .int .u16 a1, .int .u16 a2] rfl (by (try simp only [List.map_toArray, List.map_cons, List.map_nil]); first | done | rfl | (simp only [List.length_drop, List.length_take]; rfl)) ?_; (with_reducible refine (num_compared.calls kj6 a0 a1 a2 t119 t120 _ A22.out).mono ?_); rintro e w' ⟨rfl, ⟨nd, rfl⟩⟩; refine ⟨_, rfl, ?_⟩))
                        go_ret2
                        exact ⟨by first | rfl | (simp; done) | (simp [*]; done), by repeat (first | exact Drawn0.refl _ | apply Drawn0.step)⟩

end Go.Proofs.Ytgnjlgfnpfjjnaa.P
