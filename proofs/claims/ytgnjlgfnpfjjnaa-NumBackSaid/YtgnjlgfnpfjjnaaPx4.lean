/- Printed by a program of this session (it turns the kit's print): see wip/myprint. -/
import Derived.Test.YtgnjlgfnpfjjnaaPx0
import Derived.Test.YtgnjlgfnpfjjnaaPx2
import Derived.Test.YtgnjlgfnpfjjnaaPx3
namespace Go.Proofs.Ytgnjlgfnpfjjnaa.P
open Go.RowKit Go.Proofs.YtgnjlgfnpfjjnaaW.PrintWords Go.Proofs.YtgnjlgfnpfjjnaaW.PrintLast Go.Proofs.YtgnjlgfnpfjjnaaW.PrintMore Go.Proofs.Ytgnjlgfnpfjjnaa.Mine
attribute [local go_sem] max2_int min2_int max_two min_two max_three min_three max_four min_four   -- for this text's walks alone
set_option linter.unusedVariables false
set_option linter.unusedSimpArgs false

/-! ### wispref01_Binary: function 17 -/
mutual
def wispref01_Binary.j0 : Nat → Int → Int → Int → Int → Int → Int → Bool → Option (Int × Bool)
  | 0, _, _, _, _, _, _, _ => none
  | k + 1, x0, x1, x2, x8, x9, x14, x39 => if x39 = true then (if x2 = 0 then (some (0, true)) else ((wispref01_divides.f x0 x1 x2).bind fun t172 => (some (t172, true)))) else (if x14 = 30 then ((wispref01_Cell.f (mn x8 x9)).bind fun t173 => (some (t173, true))) else (if x14 = 31 then ((wispref01_Cell.f (mx x8 x9)).bind fun t174 => (some (t174, true))) else (if x14 = 36 then (wispref01_Binary.j1 k x0 x1 x2 x8 x9 x14 (x14 == 36)) else (if x14 = 37 then (wispref01_Binary.j1 k x0 x1 x2 x8 x9 x14 (x14 == 37)) else (wispref01_Binary.j1 k x0 x1 x2 x8 x9 x14 (x14 == 38))))))
def wispref01_Binary.j1 : Nat → Int → Int → Int → Int → Int → Int → Bool → Option (Int × Bool)
  | 0, _, _, _, _, _, _, _ => none
  | k + 1, x0, x1, x2, x8, x9, x14, x62 => if x62 = true then ((wispref01_bits.f k x0 x1 x2).bind fun t175 => (some (t175, true))) else (if x14 = 40 then (wispref01_Binary.j2 k x0 x1 x2 x8 x9 x14 (x14 == 40)) else (wispref01_Binary.j2 k x0 x1 x2 x8 x9 x14 (x14 == 41)))
def wispref01_Binary.j2 : Nat → Int → Int → Int → Int → Int → Int → Bool → Option (Int × Bool)
  | 0, _, _, _, _, _, _, _ => none
  | k + 1, x0, x1, x2, x8, x9, x14, x70 => if x70 = true then (if x2 > 15 then (some (0, true)) else (if x0 = 40 then ((wispref01_power.f k (wrap64 (x2))).bind fun t176 => ((wispref01_Cell.f (wrap64 ((wrap64 (x1)) * t176))).bind fun t177 => (some (t177, true)))) else ((wispref01_power.f k (wrap64 (x2))).bind fun t178 => (if t178 = 0 then (none) else ((wispref01_Cell.f (wrap64 (Int.tdiv (wrap64 (x1)) t178))).bind fun t179 => (some (t179, true))))))) else (if x14 = 42 then ((wispref01_Flag.f (x1 == x2)).bind fun t180 => (some (t180, true))) else (if x14 = 43 then ((wispref01_Flag.f (x1 != x2)).bind fun t181 => (some (t181, true))) else (if x14 = 44 then ((wispref01_Flag.f (decide (x8 < x9))).bind fun t182 => (some (t182, true))) else (if x14 = 45 then ((wispref01_Flag.f (decide (x8 > x9))).bind fun t183 => (some (t183, true))) else (if x14 = 46 then ((wispref01_Flag.f (decide (x1 < x2))).bind fun t184 => (some (t184, true))) else (if x14 = 47 then ((wispref01_Flag.f (decide (x1 > x2))).bind fun t185 => (some (t185, true))) else (some (0, false))))))))
end
def wispref01_Binary.f (k : Nat) (a0 : Int) (a1 : Int) (a2 : Int) : Option (Int × Bool) := (wispref01_Signed.f a1).bind fun t167 => ((wispref01_Signed.f a2).bind fun t168 => (if a0 = 21 then ((wispref01_Cell.f (wrap64 ((wrap64 (a1)) + (wrap64 (a2))))).bind fun t169 => (some (t169, true))) else (if a0 = 22 then ((wispref01_Cell.f (wrap64 ((wrap64 (a1)) - (wrap64 (a2))))).bind fun t170 => (some (t170, true))) else (if a0 = 23 then ((wispref01_Cell.f (wrap64 ((wrap64 (a1)) * (wrap64 (a2))))).bind fun t171 => (some (t171, true))) else (if a0 = 24 then (wispref01_Binary.j0 k a0 a1 a2 t167 t168 a0 (a0 == 24)) else (if a0 = 25 then (wispref01_Binary.j0 k a0 a1 a2 t167 t168 a0 (a0 == 25)) else (if a0 = 26 then (wispref01_Binary.j0 k a0 a1 a2 t167 t168 a0 (a0 == 26)) else (wispref01_Binary.j0 k a0 a1 a2 t167 t168 a0 (a0 == 27)))))))))
theorem wispref01_Binary.mono_l : ∀ k, (∀ y0 y1 y2 y3 y4 y5 y6, LeO (wispref01_Binary.j0 k y0 y1 y2 y3 y4 y5 y6) (wispref01_Binary.j0 (k + 1) y0 y1 y2 y3 y4 y5 y6)) ∧ (∀ y0 y1 y2 y3 y4 y5 y6, LeO (wispref01_Binary.j1 k y0 y1 y2 y3 y4 y5 y6) (wispref01_Binary.j1 (k + 1) y0 y1 y2 y3 y4 y5 y6)) ∧ (∀ y0 y1 y2 y3 y4 y5 y6, LeO (wispref01_Binary.j2 k y0 y1 y2 y3 y4 y5 y6) (wispref01_Binary.j2 (k + 1) y0 y1 y2 y3 y4 y5 y6))
  | 0 => ⟨fun _ _ _ _ _ _ _ r h => by simp [wispref01_Binary.j0] at h, fun _ _ _ _ _ _ _ r h => by simp [wispref01_Binary.j1] at h, fun _ _ _ _ _ _ _ r h => by simp [wispref01_Binary.j2] at h⟩
  | k + 1 => by
    obtain ⟨ih0, ih1, ih2⟩ := wispref01_Binary.mono_l k
    refine ⟨?_, ?_, ?_⟩
    · intro y0 y1 y2 y3 y4 y5 y6
      unfold wispref01_Binary.j0
      repeat' first
      | (with_reducible exact ih0 _ _ _ _ _ _ _)
      | (with_reducible exact ih1 _ _ _ _ _ _ _)
      | (with_reducible exact ih2 _ _ _ _ _ _ _)
      | (with_reducible exact wispref01_bits.mono _ _ _ _)
      | (with_reducible exact wispref01_power.mono _ _)
      | (with_reducible exact LeO.refl _)
      | (with_reducible exact LeO.none _)
      | (with_reducible refine LeO.ite ?_ ?_)
      | (with_reducible refine LeO.bind ?_ (fun _ => ?_))
      | exact ih0 _ _ _ _ _ _ _
      | exact ih1 _ _ _ _ _ _ _
      | exact ih2 _ _ _ _ _ _ _
      | exact wispref01_bits.mono _ _ _ _
      | exact wispref01_power.mono _ _
      | exact LeO.none _
      | refine LeO.ite ?_ ?_
      | refine LeO.bind ?_ (fun _ => ?_)
    · intro y0 y1 y2 y3 y4 y5 y6
      unfold wispref01_Binary.j1
      repeat' first
      | (with_reducible exact ih0 _ _ _ _ _ _ _)
      | (with_reducible exact ih1 _ _ _ _ _ _ _)
      | (with_reducible exact ih2 _ _ _ _ _ _ _)
      | (with_reducible exact wispref01_bits.mono _ _ _ _)
      | (with_reducible exact wispref01_power.mono _ _)
      | (with_reducible exact LeO.refl _)
      | (with_reducible exact LeO.none _)
      | (with_reducible refine LeO.ite ?_ ?_)
      | (with_reducible refine LeO.bind ?_ (fun _ => ?_))
      | exact ih0 _ _ _ _ _ _ _
      | exact ih1 _ _ _ _ _ _ _
      | exact ih2 _ _ _ _ _ _ _
      | exact wispref01_bits.mono _ _ _ _
      | exact wispref01_power.mono _ _
      | exact LeO.none _
      | refine LeO.ite ?_ ?_
      | refine LeO.bind ?_ (fun _ => ?_)
    · intro y0 y1 y2 y3 y4 y5 y6
      unfold wispref01_Binary.j2
      repeat' first
      | (with_reducible exact ih0 _ _ _ _ _ _ _)
      | (with_reducible exact ih1 _ _ _ _ _ _ _)
      | (with_reducible exact ih2 _ _ _ _ _ _ _)
      | (with_reducible exact wispref01_bits.mono _ _ _ _)
      | (with_reducible exact wispref01_power.mono _ _)
      | (with_reducible exact LeO.refl _)
      | (with_reducible exact LeO.none _)
      | (with_reducible refine LeO.ite ?_ ?_)
      | (with_reducible refine LeO.bind ?_ (fun _ => ?_))
      | exact ih0 _ _ _ _ _ _ _
      | exact ih1 _ _ _ _ _ _ _
      | exact ih2 _ _ _ _ _ _ _
      | exact wispref01_bits.mono _ _ _ _
      | exact wispref01_power.mono _ _
      | exact LeO.none _
      | refine LeO.ite ?_ ?_
      | refine LeO.bind ?_ (fun _ => ?_)
theorem wispref01_Binary.mono : ∀ a0 a1 a2 k, LeO (wispref01_Binary.f k a0 a1 a2) (wispref01_Binary.f (k + 1) a0 a1 a2) := by
  intro a0 a1 a2 k
  obtain ⟨ih0, ih1, ih2⟩ := wispref01_Binary.mono_l k
  unfold wispref01_Binary.f
  repeat' first
      | (with_reducible exact ih0 _ _ _ _ _ _ _)
      | (with_reducible exact ih1 _ _ _ _ _ _ _)
      | (with_reducible exact ih2 _ _ _ _ _ _ _)
      | (with_reducible exact wispref01_bits.mono _ _ _ _)
      | (with_reducible exact wispref01_power.mono _ _)
      | (with_reducible exact LeO.refl _)
      | (with_reducible exact LeO.none _)
      | (with_reducible refine LeO.ite ?_ ?_)
      | (with_reducible refine LeO.bind ?_ (fun _ => ?_))
      | exact ih0 _ _ _ _ _ _ _
      | exact ih1 _ _ _ _ _ _ _
      | exact ih2 _ _ _ _ _ _ _
      | exact wispref01_bits.mono _ _ _ _
      | exact wispref01_power.mono _ _
      | exact LeO.none _
      | refine LeO.ite ?_ ?_
      | refine LeO.bind ?_ (fun _ => ?_)
set_option maxHeartbeats 8000000 in
set_option maxRecDepth 100000 in
theorem wispref01_Binary.calls (k : Nat) (a0 : Int) (a1 : Int) (a2 : Int) (r1 : Int) (r2 : Bool) (w : World) (h : wispref01_Binary.f k a0 a1 a2 = some (r1, r2)) :
    Calls Try.prog 17 #[.int .i64 a0, .int .u16 a1, .int .u16 a2] w fun e w' => e = .returned (.tuple #[.int .u16 r1, .bool r2]) ∧ Below w.heap.size w w' := by
  have HB := Aside0.mk (Below.refl w.heap.size w)
  have H : ((wispref01_Signed.f a1).bind fun t167 => ((wispref01_Signed.f a2).bind fun t168 => (if a0 = 21 then ((wispref01_Cell.f (wrap64 ((wrap64 (a1)) + (wrap64 (a2))))).bind fun t169 => (some (t169, true))) else (if a0 = 22 then ((wispref01_Cell.f (wrap64 ((wrap64 (a1)) - (wrap64 (a2))))).bind fun t170 => (some (t170, true))) else (if a0 = 23 then ((wispref01_Cell.f (wrap64 ((wrap64 (a1)) * (wrap64 (a2))))).bind fun t171 => (some (t171, true))) else (if a0 = 24 then (wispref01_Binary.j0 k a0 a1 a2 t167 t168 a0 (a0 == 24)) else (if a0 = 25 then (wispref01_Binary.j0 k a0 a1 a2 t167 t168 a0 (a0 == 25)) else (if a0 = 26 then (wispref01_Binary.j0 k a0 a1 a2 t167 t168 a0 (a0 == 26)) else (wispref01_Binary.j0 k a0 a1 a2 t167 t168 a0 (a0 == 27)))))))))) = some (r1, r2) := h
  clear h
  replace H := Option.bind_eq_some_iff.mp H
  obtain ⟨t167, A40, H⟩ := H
  replace H : ((wispref01_Signed.f a2).bind fun t168 => (if a0 = 21 then ((wispref01_Cell.f (wrap64 ((wrap64 (a1)) + (wrap64 (a2))))).bind fun t169 => (some (t169, true))) else (if a0 = 22 then ((wispref01_Cell.f (wrap64 ((wrap64 (a1)) - (wrap64 (a2))))).bind fun t170 => (some (t170, true))) else (if a0 = 23 then ((wispref01_Cell.f (wrap64 ((wrap64 (a1)) * (wrap64 (a2))))).bind fun t171 => (some (t171, true))) else (if a0 = 24 then (wispref01_Binary.j0 k a0 a1 a2 t167 t168 a0 (a0 == 24)) else (if a0 = 25 then (wispref01_Binary.j0 k a0 a1 a2 t167 t168 a0 (a0 == 25)) else (if a0 = 26 then (wispref01_Binary.j0 k a0 a1 a2 t167 t168 a0 (a0 == 26)) else (wispref01_Binary.j0 k a0 a1 a2 t167 t168 a0 (a0 == 27))))))))) = some (r1, r2) := H
  have A4 := Aside0.mk A40
  clear A40
  replace H := Option.bind_eq_some_iff.mp H
  obtain ⟨t168, A50, H⟩ := H
  replace H : (if a0 = 21 then ((wispref01_Cell.f (wrap64 ((wrap64 (a1)) + (wrap64 (a2))))).bind fun t169 => (some (t169, true))) else (if a0 = 22 then ((wispref01_Cell.f (wrap64 ((wrap64 (a1)) - (wrap64 (a2))))).bind fun t170 => (some (t170, true))) else (if a0 = 23 then ((wispref01_Cell.f (wrap64 ((wrap64 (a1)) * (wrap64 (a2))))).bind fun t171 => (some (t171, true))) else (if a0 = 24 then (wispref01_Binary.j0 k a0 a1 a2 t167 t168 a0 (a0 == 24)) else (if a0 = 25 then (wispref01_Binary.j0 k a0 a1 a2 t167 t168 a0 (a0 == 25)) else (if a0 = 26 then (wispref01_Binary.j0 k a0 a1 a2 t167 t168 a0 (a0 == 26)) else (wispref01_Binary.j0 k a0 a1 a2 t167 t168 a0 (a0 == 27)))))))) = some (r1, r2) := H
  have A5 := Aside0.mk A50
  clear A50
  by_cases c6 : a0 = 21
  · rw [if_pos c6] at H
    have c6b0 : (a0 == 21) = true := beq_iff_eq.mpr c6
    have c6b1 : (a0 != 21) = false := bne_eq_false_iff_eq.mpr c6
    clear c6
    replace H := Option.bind_eq_some_iff.mp H
    obtain ⟨t169, A70, H⟩ := H
    replace H : (some (t169, true)) = some (r1, r2) := H
    have A7 := Aside0.mk A70
    clear A70
    simp only [Option.some.injEq, Prod.mk.injEq] at H
    obtain ⟨rfl, rfl⟩ := H
    go_enter Try.func17, Try.ntmps17
    go_wp2_with (first | ((with_reducible refine gate_callee (f := 11) rfl ?_); refine goesL_ (some 11) rfl rfl Try.func11 (by kernel_rfl) rfl #[.int .u16 a1] rfl (by (try simp only [List.map_toArray, List.map_cons, List.map_nil]); first | done | rfl | (simp only [List.length_drop, List.length_take]; rfl)) ?_; (with_reducible refine (wispref01_Signed.calls a1 t167 _ A4.out).mono ?_); rintro e w' ⟨rfl, ⟨nd, rfl⟩⟩; refine ⟨_, rfl, ?_⟩) | ((with_reducible refine gate_callee (f := 11) rfl ?_); refine goesL_ (some 13) rfl rfl Try.func11 (by kernel_rfl) rfl #[.int .u16 a2] rfl (by (try simp only [List.map_toArray, List.map_cons, List.map_nil]); first | done | rfl | (simp only [List.length_drop, List.length_take]; rfl)) ?_; (with_reducible refine (wispref01_Signed.calls a2 t168 _ A5.out).mono ?_); rintro e w' ⟨rfl, ⟨nd, rfl⟩⟩; refine ⟨_, rfl, ?_⟩) | ((with_reducible refine gate_callee (f := 13) rfl ?_); refine goesL_ (some 22) rfl rfl Try.func13 (by kernel_rfl) rfl #[.int .i64 (wrap64 ((wrap64 (a1)) + (wrap64 (a2))))] rfl (by (try simp only [List.map_toArray, List.map_cons, List.map_nil]); first | done | rfl | (simp only [List.length_drop, List.length_take]; rfl)) ?_; (with_reducible refine (wispref01_Cell.calls (wrap64 ((wrap64 (a1)) + (wrap64 (a2)))) t169 _ A7.out).mono ?_); rintro e w' ⟨rfl, ⟨nd, rfl⟩⟩; refine ⟨_, rfl, ?_⟩))
    go_ret2
    exact ⟨by first | rfl | (simp [errW_none, errW_some] <;> rfl) | (simp [*, errW_none, errW_some] <;> rfl), by repeat (first | (with_reducible first | exact HB.out | apply below_alloc | apply pw_below_drewN | apply below_drew1) | exact HB.out)⟩
  · rw [if_neg c6] at H
    have c6b0 : (a0 == 21) = false := beq_eq_false_iff_ne.mpr c6
    have c6b1 : (a0 != 21) = true := bne_iff_ne.mpr c6
    by_cases c8 : a0 = 22
    · rw [if_pos c8] at H
      have c8b0 : (a0 == 22) = true := beq_iff_eq.mpr c8
      have c8b1 : (a0 != 22) = false := bne_eq_false_iff_eq.mpr c8
      clear c8
      replace H := Option.bind_eq_some_iff.mp H
      obtain ⟨t170, A90, H⟩ := H
      replace H : (some (t170, true)) = some (r1, r2) := H
      have A9 := Aside0.mk A90
      clear A90
      simp only [Option.some.injEq, Prod.mk.injEq] at H
      obtain ⟨rfl, rfl⟩ := H
      go_enter Try.func17, Try.ntmps17
      go_wp2_with (first | ((with_reducible refine gate_callee (f := 11) rfl ?_); refine goesL_ (some 11) rfl rfl Try.func11 (by kernel_rfl) rfl #[.int .u16 a1] rfl (by (try simp only [List.map_toArray, List.map_cons, List.map_nil]); first | done | rfl | (simp only [List.length_drop, List.length_take]; rfl)) ?_; (with_reducible refine (wispref01_Signed.calls a1 t167 _ A4.out).mono ?_); rintro e w' ⟨rfl, ⟨nd, rfl⟩⟩; refine ⟨_, rfl, ?_⟩) | ((with_reducible refine gate_callee (f := 11) rfl ?_); refine goesL_ (some 13) rfl rfl Try.func11 (by kernel_rfl) rfl #[.int .u16 a2] rfl (by (try simp only [List.map_toArray, List.map_cons, List.map_nil]); first | done | rfl | (simp only [List.length_drop, List.length_take]; rfl)) ?_; (with_reducible refine (wispref01_Signed.calls a2 t168 _ A5.out).mono ?_); rintro e w' ⟨rfl, ⟨nd, rfl⟩⟩; refine ⟨_, rfl, ?_⟩) | ((with_reducible refine gate_callee (f := 13) rfl ?_); refine goesL_ (some 30) rfl rfl Try.func13 (by kernel_rfl) rfl #[.int .i64 (wrap64 ((wrap64 (a1)) - (wrap64 (a2))))] rfl (by (try simp only [List.map_toArray, List.map_cons, List.map_nil]); first | done | rfl | (simp only [List.length_drop, List.length_take]; rfl)) ?_; (with_reducible refine (wispref01_Cell.calls (wrap64 ((wrap64 (a1)) - (wrap64 (a2)))) t170 _ A9.out).mono ?_); rintro e w' ⟨rfl, ⟨nd, rfl⟩⟩; refine ⟨_, rfl, ?_⟩))
      go_ret2
      exact ⟨by first | rfl | (simp [errW_none, errW_some] <;> rfl) | (simp [*, errW_none, errW_some] <;> rfl), by repeat (first | (with_reducible first | exact HB.out | apply below_alloc | apply pw_below_drewN | apply below_drew1) | exact HB.out)⟩
    · rw [if_neg c8] at H
      have c8b0 : (a0 == 22) = false := beq_eq_false_iff_ne.mpr c8
      have c8b1 : (a0 != 22) = true := bne_iff_ne.mpr c8
      by_cases c10 : a0 = 23
      · rw [if_pos c10] at H
        have c10b0 : (a0 == 23) = true := beq_iff_eq.mpr c10
        have c10b1 : (a0 != 23) = false := bne_eq_false_iff_eq.mpr c10
        clear c10
        replace H := Option.bind_eq_some_iff.mp H
        obtain ⟨t171, A110, H⟩ := H
        replace H : (some (t171, true)) = some (r1, r2) := H
        have A11 := Aside0.mk A110
        clear A110
        simp only [Option.some.injEq, Prod.mk.injEq] at H
        obtain ⟨rfl, rfl⟩ := H
        go_enter Try.func17, Try.ntmps17
        go_wp2_with (first | ((with_reducible refine gate_callee (f := 11) rfl ?_); refine goesL_ (some 11) rfl rfl Try.func11 (by kernel_rfl) rfl #[.int .u16 a1] rfl (by (try simp only [List.map_toArray, List.map_cons, List.map_nil]); first | done | rfl | (simp only [List.length_drop, List.length_take]; rfl)) ?_; (with_reducible refine (wispref01_Signed.calls a1 t167 _ A4.out).mono ?_); rintro e w' ⟨rfl, ⟨nd, rfl⟩⟩; refine ⟨_, rfl, ?_⟩) | ((with_reducible refine gate_callee (f := 11) rfl ?_); refine goesL_ (some 13) rfl rfl Try.func11 (by kernel_rfl) rfl #[.int .u16 a2] rfl (by (try simp only [List.map_toArray, List.map_cons, List.map_nil]); first | done | rfl | (simp only [List.length_drop, List.length_take]; rfl)) ?_; (with_reducible refine (wispref01_Signed.calls a2 t168 _ A5.out).mono ?_); rintro e w' ⟨rfl, ⟨nd, rfl⟩⟩; refine ⟨_, rfl, ?_⟩) | ((with_reducible refine gate_callee (f := 13) rfl ?_); refine goesL_ (some 38) rfl rfl Try.func13 (by kernel_rfl) rfl #[.int .i64 (wrap64 ((wrap64 (a1)) * (wrap64 (a2))))] rfl (by (try simp only [List.map_toArray, List.map_cons, List.map_nil]); first | done | rfl | (simp only [List.length_drop, List.length_take]; rfl)) ?_; (with_reducible refine (wispref01_Cell.calls (wrap64 ((wrap64 (a1)) * (wrap64 (a2)))) t171 _ A11.out).mono ?_); rintro e w' ⟨rfl, ⟨nd, rfl⟩⟩; refine ⟨_, rfl, ?_⟩))
        go_ret2
        exact ⟨by first | rfl | (simp [errW_none, errW_some] <;> rfl) | (simp [*, errW_none, errW_some] <;> rfl), by repeat (first | (with_reducible first | exact HB.out | apply below_alloc | apply pw_below_drewN | apply below_drew1) | exact HB.out)⟩
      · rw [if_neg c10] at H
        have c10b0 : (a0 == 23) = false := beq_eq_false_iff_ne.mpr c10
        have c10b1 : (a0 != 23) = true := bne_iff_ne.mpr c10
        have HC12 := Aside0.mk H
        clear H
        go_enter Try.func17, Try.ntmps17
        go_upto_if 39 with (first | ((with_reducible refine gate_callee (f := 11) rfl ?_); refine goesL_ (some 11) rfl rfl Try.func11 (by kernel_rfl) rfl #[.int .u16 a1] rfl (by (try simp only [List.map_toArray, List.map_cons, List.map_nil]); first | done | rfl | (simp only [List.length_drop, List.length_take]; rfl)) ?_; (with_reducible refine (wispref01_Signed.calls a1 t167 _ A4.out).mono ?_); rintro e w' ⟨rfl, ⟨nd, rfl⟩⟩; refine ⟨_, rfl, ?_⟩) | ((with_reducible refine gate_callee (f := 11) rfl ?_); refine goesL_ (some 13) rfl rfl Try.func11 (by kernel_rfl) rfl #[.int .u16 a2] rfl (by (try simp only [List.map_toArray, List.map_cons, List.map_nil]); first | done | rfl | (simp only [List.length_drop, List.length_take]; rfl)) ?_; (with_reducible refine (wispref01_Signed.calls a2 t168 _ A5.out).mono ?_); rintro e w' ⟨rfl, ⟨nd, rfl⟩⟩; refine ⟨_, rfl, ?_⟩))
        (try simp only [Act.put, List.setIfInBounds_toArray, List.set_cons_zero, List.set_cons_succ])
        go_cut [39] (fun v39 wc => ∃ (kq : Nat) (x39_11 : Bool), v39 = .bool x39_11 ∧ Aside0 (wispref01_Binary.j0 kq a0 a1 a2 t167 t168 a0 x39_11 = some (r1, r2)) ∧ Aside0 (kq ≤ k) ∧ Aside0 (Below w.heap.size w wc))
        case first =>
          have H := HC12.out
          clear HC12
          by_cases c13 : a0 = 24
          · rw [if_pos c13] at H
            have c13b0 : (a0 == 24) = true := beq_iff_eq.mpr c13
            have c13b1 : (a0 != 24) = false := bne_eq_false_iff_eq.mpr c13
            clear c13
            (first | rw [c13b0] | (simp only [i64_w, i32_w]; rw [c13b0]) | skip)
            have H' := Aside0.mk H
            clear H
            go_wp2
            go_meet
            case rel => exact ⟨_, ((a0 == 24)), (by first | rfl | (simp; done) | (simp [*]; done)), H', ⟨by first | omega | exact Nat.le_refl _⟩, ⟨by repeat (first | (with_reducible first | exact HB.out | apply below_alloc | apply pw_below_drewN | apply below_drew1) | exact HB.out)⟩⟩
          · rw [if_neg c13] at H
            have c13b0 : (a0 == 24) = false := beq_eq_false_iff_ne.mpr c13
            have c13b1 : (a0 != 24) = true := bne_iff_ne.mpr c13
            (first | rw [c13b0] | (simp only [i64_w, i32_w]; rw [c13b0]) | skip)
            by_cases c14 : a0 = 25
            · rw [if_pos c14] at H
              have c14b0 : (a0 == 25) = true := beq_iff_eq.mpr c14
              have c14b1 : (a0 != 25) = false := bne_eq_false_iff_eq.mpr c14
              clear c14
              have H' := Aside0.mk H
              clear H
              go_wp2
              go_meet
              case rel => exact ⟨_, ((a0 == 25)), (by first | rfl | (simp; done) | (simp [*]; done)), H', ⟨by first | omega | exact Nat.le_refl _⟩, ⟨by repeat (first | (with_reducible first | exact HB.out | apply below_alloc | apply pw_below_drewN | apply below_drew1) | exact HB.out)⟩⟩
            · rw [if_neg c14] at H
              have c14b0 : (a0 == 25) = false := beq_eq_false_iff_ne.mpr c14
              have c14b1 : (a0 != 25) = true := bne_iff_ne.mpr c14
              by_cases c15 : a0 = 26
              · rw [if_pos c15] at H
                have c15b0 : (a0 == 26) = true := beq_iff_eq.mpr c15
                have c15b1 : (a0 != 26) = false := bne_eq_false_iff_eq.mpr c15
                clear c15
                have H' := Aside0.mk H
                clear H
                go_wp2
                go_meet
                case rel => exact ⟨_, ((a0 == 26)), (by first | rfl | (simp; done) | (simp [*]; done)), H', ⟨by first | omega | exact Nat.le_refl _⟩, ⟨by repeat (first | (with_reducible first | exact HB.out | apply below_alloc | apply pw_below_drewN | apply below_drew1) | exact HB.out)⟩⟩
              · rw [if_neg c15] at H
                have c15b0 : (a0 == 26) = false := beq_eq_false_iff_ne.mpr c15
                have c15b1 : (a0 != 26) = true := bne_iff_ne.mpr c15
                have H' := Aside0.mk H
                clear H
                go_wp2
                go_meet
                case rel => exact ⟨_, ((a0 == 27)), (by first | rfl | (simp; done) | (simp [*]; done)), H', ⟨by first | omega | exact Nat.le_refl _⟩, ⟨by repeat (first | (with_reducible first | exact HB.out | apply below_alloc | apply pw_below_drewN | apply below_drew1) | exact HB.out)⟩⟩
        case rest =>
          clear HC12
          try clear c1
          try clear p2
          try clear c6
          try clear c6b0
          try clear c6b1
          try clear p6
          try clear c8
          try clear c8b0
          try clear c8b1
          try clear c10
          try clear c10b0
          try clear c10b1
          try clear c11
          try clear c13
          try clear c13b0
          try clear c13b1
          try clear c14
          try clear c14b0
          try clear c14b1
          try clear c15
          try clear c15b0
          try clear c15b1
          obtain ⟨kq, x39_11, rfl, HA, HJ11, HB⟩ := hcut
          cases kq with
          | zero => exact absurd HA.out (by simp [wispref01_Binary.j0])
          | succ kj11 =>
            have H := HA.out
            clear HA
            simp only [wispref01_Binary.j0] at H
            by_cases c16 : x39_11 = true
            · subst c16
              have H1 : (if a2 = 0 then (some (0, true)) else ((wispref01_divides.f a0 a1 a2).bind fun t172 => (some (t172, true)))) = some (r1, r2) := by rw [if_pos rfl] at H; exact H
              clear H
              have H := H1
              clear H1
              by_cases c17 : a2 = 0
              · rw [if_pos c17] at H
                have c17b0 : (a2 == 0) = true := beq_iff_eq.mpr c17
                have c17b1 : (a2 != 0) = false := bne_eq_false_iff_eq.mpr c17
                clear c17
                simp only [Option.some.injEq, Prod.mk.injEq] at H
                obtain ⟨rfl, rfl⟩ := H
                go_wp2
                go_ret2
                exact ⟨by first | rfl | (simp [errW_none, errW_some] <;> rfl) | (simp [*, errW_none, errW_some] <;> rfl), by repeat (first | (with_reducible first | exact HB.out | apply below_alloc | apply pw_below_drewN | apply below_drew1) | exact HB.out)⟩
              · rw [if_neg c17] at H
                have c17b0 : (a2 == 0) = false := beq_eq_false_iff_ne.mpr c17
                have c17b1 : (a2 != 0) = true := bne_iff_ne.mpr c17
                replace H := Option.bind_eq_some_iff.mp H
                obtain ⟨t172, A180, H⟩ := H
                replace H : (some (t172, true)) = some (r1, r2) := H
                have A18 := Aside0.mk A180
                clear A180
                simp only [Option.some.injEq, Prod.mk.injEq] at H
                obtain ⟨rfl, rfl⟩ := H
                go_wp2_with (first | ((with_reducible refine gate_callee (f := 24) rfl ?_); refine goesL_ (some 49) rfl rfl Try.func24 (by kernel_rfl) rfl #[.int .i64 a0, .int .u16 a1, .int .u16 a2] rfl (by (try simp only [List.map_toArray, List.map_cons, List.map_nil]); first | done | rfl | (simp only [List.length_drop, List.length_take]; rfl)) ?_; (with_reducible refine (wispref01_divides.calls a0 a1 a2 t172 _ A18.out).mono ?_); rintro e w' ⟨rfl, ⟨nd, rfl⟩⟩; refine ⟨_, rfl, ?_⟩))
                go_ret2
                exact ⟨by first | rfl | (simp [errW_none, errW_some] <;> rfl) | (simp [*, errW_none, errW_some] <;> rfl), by repeat (first | (with_reducible first | exact HB.out | apply below_alloc | apply pw_below_drewN | apply below_drew1) | exact HB.out)⟩
            · replace c16 := Bool.eq_false_iff.mpr c16
              subst c16
              have H1 : (if a0 = 30 then ((wispref01_Cell.f (mn t167 t168)).bind fun t173 => (some (t173, true))) else (if a0 = 31 then ((wispref01_Cell.f (mx t167 t168)).bind fun t174 => (some (t174, true))) else (if a0 = 36 then (wispref01_Binary.j1 kj11 a0 a1 a2 t167 t168 a0 (a0 == 36)) else (if a0 = 37 then (wispref01_Binary.j1 kj11 a0 a1 a2 t167 t168 a0 (a0 == 37)) else (wispref01_Binary.j1 kj11 a0 a1 a2 t167 t168 a0 (a0 == 38)))))) = some (r1, r2) := by rw [if_neg (show ¬ (false = true) by decide)] at H; exact H
              clear H
              have H := H1
              clear H1
              by_cases c19 : a0 = 30
              · rw [if_pos c19] at H
                have c19b0 : (a0 == 30) = true := beq_iff_eq.mpr c19
                have c19b1 : (a0 != 30) = false := bne_eq_false_iff_eq.mpr c19
                clear c19
                obtain ⟨ji20, hji20⟩ : ∃ j_ : Int, (mn t167 t168) = j_ := ⟨_, rfl⟩
                replace H : ((wispref01_Cell.f (ji20)).bind fun t173 => (some (t173, true))) = some (r1, r2) := by first | (rw [hji20] at H; exact H) | (simp only [hji20] at H ⊢; exact H)
                have hji20_ : (if t168 < t167 then t168 else t167) = ji20 := hji20
                replace H := Option.bind_eq_some_iff.mp H
                obtain ⟨t173, A210, H⟩ := H
                replace H : (some (t173, true)) = some (r1, r2) := H
                have A21 := Aside0.mk A210
                clear A210
                simp only [Option.some.injEq, Prod.mk.injEq] at H
                obtain ⟨rfl, rfl⟩ := H
                go_wp2_with (first | ((with_reducible refine gate_callee (f := 13) rfl ?_); refine goesL_ (some 55) rfl rfl Try.func13 (by kernel_rfl) rfl #[.int .i64 ji20] rfl (by (try simp only [List.map_toArray, List.map_cons, List.map_nil]); first | done | (simp only [hji20]; rfl) | rfl | (simp only [List.length_drop, List.length_take]; rfl)) ?_; (with_reducible refine (wispref01_Cell.calls ji20 t173 _ A21.out).mono ?_); rintro e w' ⟨rfl, ⟨nd, rfl⟩⟩; refine ⟨_, rfl, ?_⟩))
                go_ret2
                exact ⟨by first | rfl | (simp [errW_none, errW_some] <;> rfl) | (simp only [← hji20]; first | rfl | (simp [errW_none, errW_some] <;> rfl)) | (simp [*, errW_none, errW_some] <;> rfl), by repeat (first | (with_reducible first | exact HB.out | apply below_alloc | apply pw_below_drewN | apply below_drew1) | exact HB.out)⟩
              · rw [if_neg c19] at H
                have c19b0 : (a0 == 30) = false := beq_eq_false_iff_ne.mpr c19
                have c19b1 : (a0 != 30) = true := bne_iff_ne.mpr c19
                by_cases c22 : a0 = 31
                · rw [if_pos c22] at H
                  have c22b0 : (a0 == 31) = true := beq_iff_eq.mpr c22
                  have c22b1 : (a0 != 31) = false := bne_eq_false_iff_eq.mpr c22
                  clear c22
                  obtain ⟨ji23, hji23⟩ : ∃ j_ : Int, (mx t167 t168) = j_ := ⟨_, rfl⟩
                  replace H : ((wispref01_Cell.f (ji23)).bind fun t174 => (some (t174, true))) = some (r1, r2) := by first | (rw [hji23] at H; exact H) | (simp only [hji23] at H ⊢; exact H)
                  have hji23_ : (if t167 < t168 then t168 else t167) = ji23 := hji23
                  replace H := Option.bind_eq_some_iff.mp H
                  obtain ⟨t174, A240, H⟩ := H
                  replace H : (some (t174, true)) = some (r1, r2) := H
                  have A24 := Aside0.mk A240
                  clear A240
                  simp only [Option.some.injEq, Prod.mk.injEq] at H
                  obtain ⟨rfl, rfl⟩ := H
                  go_wp2_with (first | ((with_reducible refine gate_callee (f := 13) rfl ?_); refine goesL_ (some 61) rfl rfl Try.func13 (by kernel_rfl) rfl #[.int .i64 ji23] rfl (by (try simp only [List.map_toArray, List.map_cons, List.map_nil]); first | done | (simp only [hji23]; rfl) | rfl | (simp only [List.length_drop, List.length_take]; rfl)) ?_; (with_reducible refine (wispref01_Cell.calls ji23 t174 _ A24.out).mono ?_); rintro e w' ⟨rfl, ⟨nd, rfl⟩⟩; refine ⟨_, rfl, ?_⟩))
                  go_ret2
                  exact ⟨by first | rfl | (simp [errW_none, errW_some] <;> rfl) | (simp only [← hji23]; first | rfl | (simp [errW_none, errW_some] <;> rfl)) | (simp [*, errW_none, errW_some] <;> rfl), by repeat (first | (with_reducible first | exact HB.out | apply below_alloc | apply pw_below_drewN | apply below_drew1) | exact HB.out)⟩
                · rw [if_neg c22] at H
                  have c22b0 : (a0 == 31) = false := beq_eq_false_iff_ne.mpr c22
                  have c22b1 : (a0 != 31) = true := bne_iff_ne.mpr c22
                  have HC25 := Aside0.mk H
                  clear H
                  go_upto_if 62 with (fail)
                  go_cut [62] (fun v62 wc => ∃ (kq : Nat) (x62_24 : Bool), v62 = .bool x62_24 ∧ Aside0 (wispref01_Binary.j1 kq a0 a1 a2 t167 t168 a0 x62_24 = some (r1, r2)) ∧ Aside0 (kq ≤ kj11) ∧ Aside0 (Below w.heap.size w wc))
                  case first =>
                    have H := HC25.out
                    clear HC25
                    by_cases c26 : a0 = 36
                    · rw [if_pos c26] at H
                      have c26b0 : (a0 == 36) = true := beq_iff_eq.mpr c26
                      have c26b1 : (a0 != 36) = false := bne_eq_false_iff_eq.mpr c26
                      clear c26
                      (first | rw [c26b0] | (simp only [i64_w, i32_w]; rw [c26b0]) | skip)
                      have H' := Aside0.mk H
                      clear H
                      go_wp2
                      go_meet
                      case rel => exact ⟨_, ((a0 == 36)), (by first | rfl | (simp; done) | (simp [*]; done)), H', ⟨by have := HJ11.out; first | omega | exact Nat.le_refl _⟩, ⟨by repeat (first | (with_reducible first | exact HB.out | apply below_alloc | apply pw_below_drewN | apply below_drew1) | exact HB.out)⟩⟩
                    · rw [if_neg c26] at H
                      have c26b0 : (a0 == 36) = false := beq_eq_false_iff_ne.mpr c26
                      have c26b1 : (a0 != 36) = true := bne_iff_ne.mpr c26
                      (first | rw [c26b0] | (simp only [i64_w, i32_w]; rw [c26b0]) | skip)
                      by_cases c27 : a0 = 37
                      · rw [if_pos c27] at H
                        have c27b0 : (a0 == 37) = true := beq_iff_eq.mpr c27
                        have c27b1 : (a0 != 37) = false := bne_eq_false_iff_eq.mpr c27
                        clear c27
                        have H' := Aside0.mk H
                        clear H
                        go_wp2
                        go_meet
                        case rel => exact ⟨_, ((a0 == 37)), (by first | rfl | (simp; done) | (simp [*]; done)), H', ⟨by have := HJ11.out; first | omega | exact Nat.le_refl _⟩, ⟨by repeat (first | (with_reducible first | exact HB.out | apply below_alloc | apply pw_below_drewN | apply below_drew1) | exact HB.out)⟩⟩
                      · rw [if_neg c27] at H
                        have c27b0 : (a0 == 37) = false := beq_eq_false_iff_ne.mpr c27
                        have c27b1 : (a0 != 37) = true := bne_iff_ne.mpr c27
                        have H' := Aside0.mk H
                        clear H
                        go_wp2
                        go_meet
                        case rel => exact ⟨_, ((a0 == 38)), (by first | rfl | (simp; done) | (simp [*]; done)), H', ⟨by have := HJ11.out; first | omega | exact Nat.le_refl _⟩, ⟨by repeat (first | (with_reducible first | exact HB.out | apply below_alloc | apply pw_below_drewN | apply below_drew1) | exact HB.out)⟩⟩
                  case rest =>
                    clear HC25
                    try clear c1
                    try clear c2
                    try clear p2
                    try clear c6
                    try clear c6b0
                    try clear c6b1
                    try clear p6
                    try clear c8
                    try clear c8b0
                    try clear c8b1
                    try clear c10
                    try clear c10b0
                    try clear c10b1
                    try clear c11
                    try clear c13
                    try clear c13b0
                    try clear c13b1
                    try clear c14
                    try clear c14b0
                    try clear c14b1
                    try clear c15
                    try clear c15b0
                    try clear c15b1
                    try clear c16
                    try clear c17
                    try clear c17b0
                    try clear c17b1
                    try clear c19
                    try clear c19b0
                    try clear c19b1
                    try clear c22
                    try clear c22b0
                    try clear c22b1
                    try clear c24
                    try clear c26
                    try clear c26b0
                    try clear c26b1
                    try clear c27
                    try clear c27b0
                    try clear c27b1
                    try clear p2
                    try clear p6
                    obtain ⟨kq, x62_24, rfl, HA, HJ24, HB⟩ := hcut
                    cases kq with
                    | zero => exact absurd HA.out (by simp [wispref01_Binary.j1])
                    | succ kj24 =>
                      have H := HA.out
                      clear HA
                      simp only [wispref01_Binary.j1] at H
                      by_cases c28 : x62_24 = true
                      · subst c28
                        have H1 : ((wispref01_bits.f kj24 a0 a1 a2).bind fun t175 => (some (t175, true))) = some (r1, r2) := by rw [if_pos rfl] at H; exact H
                        clear H
                        have H := H1
                        clear H1
                        replace H := Option.bind_eq_some_iff.mp H
                        obtain ⟨t175, A290, H⟩ := H
                        replace H : (some (t175, true)) = some (r1, r2) := H
                        have A29 := Aside0.mk A290
                        clear A290
                        simp only [Option.some.injEq, Prod.mk.injEq] at H
                        obtain ⟨rfl, rfl⟩ := H
                        go_wp2_with (first | ((with_reducible refine gate_callee (f := 25) rfl ?_); refine goesL_ (some 69) rfl rfl Try.func25 (by kernel_rfl) rfl #[.int .i64 a0, .int .u16 a1, .int .u16 a2] rfl (by (try simp only [List.map_toArray, List.map_cons, List.map_nil]); first | done | rfl | (simp only [List.length_drop, List.length_take]; rfl)) ?_; (with_reducible refine (wispref01_bits.calls kj24 a0 a1 a2 t175 _ A29.out).mono ?_); rintro e w' ⟨rfl, ⟨nd, rfl⟩⟩; refine ⟨_, rfl, ?_⟩))
                        go_ret2
                        exact ⟨by first | rfl | (simp [errW_none, errW_some] <;> rfl) | (simp [*, errW_none, errW_some] <;> rfl), by repeat (first | (with_reducible first | exact HB.out | apply below_alloc | apply pw_below_drewN | apply below_drew1) | exact HB.out)⟩
                      · replace c28 := Bool.eq_false_iff.mpr c28
                        subst c28
                        have H1 : (if a0 = 40 then (wispref01_Binary.j2 kj24 a0 a1 a2 t167 t168 a0 (a0 == 40)) else (wispref01_Binary.j2 kj24 a0 a1 a2 t167 t168 a0 (a0 == 41))) = some (r1, r2) := by rw [if_neg (show ¬ (false = true) by decide)] at H; exact H
                        clear H
                        have H := H1
                        clear H1
                        have HC30 := Aside0.mk H
                        clear H
                        go_upto_if 70 with (fail)
                        go_cut [70] (fun v70 wc => ∃ (kq : Nat) (x70_29 : Bool), v70 = .bool x70_29 ∧ Aside0 (wispref01_Binary.j2 kq a0 a1 a2 t167 t168 a0 x70_29 = some (r1, r2)) ∧ Aside0 (kq ≤ kj24) ∧ Aside0 (Below w.heap.size w wc))
                        case first =>
                          have H := HC30.out
                          clear HC30
                          by_cases c31 : a0 = 40
                          · rw [if_pos c31] at H
                            have c31b0 : (a0 == 40) = true := beq_iff_eq.mpr c31
                            have c31b1 : (a0 != 40) = false := bne_eq_false_iff_eq.mpr c31
                            clear c31
                            (first | rw [c31b0] | (simp only [i64_w, i32_w]; rw [c31b0]) | skip)
                            have H' := Aside0.mk H
                            clear H
                            go_wp2
                            go_meet
                            case rel => exact ⟨_, ((a0 == 40)), (by first | rfl | (simp; done) | (simp [*]; done)), H', ⟨by have := HJ11.out; have := HJ24.out; first | omega | exact Nat.le_refl _⟩, ⟨by repeat (first | (with_reducible first | exact HB.out | apply below_alloc | apply pw_below_drewN | apply below_drew1) | exact HB.out)⟩⟩
                          · rw [if_neg c31] at H
                            have c31b0 : (a0 == 40) = false := beq_eq_false_iff_ne.mpr c31
                            have c31b1 : (a0 != 40) = true := bne_iff_ne.mpr c31
                            (first | rw [c31b0] | (simp only [i64_w, i32_w]; rw [c31b0]) | skip)
                            have H' := Aside0.mk H
                            clear H
                            go_wp2
                            go_meet
                            case rel => exact ⟨_, ((a0 == 41)), (by first | rfl | (simp; done) | (simp [*]; done)), H', ⟨by have := HJ11.out; have := HJ24.out; first | omega | exact Nat.le_refl _⟩, ⟨by repeat (first | (with_reducible first | exact HB.out | apply below_alloc | apply pw_below_drewN | apply below_drew1) | exact HB.out)⟩⟩
                        case rest =>
                          clear HC30
                          try clear c1
                          try clear c2
                          try clear p2
                          try clear c3
                          try clear c6
                          try clear c6b0
                          try clear c6b1
                          try clear p6
                          try clear c8
                          try clear c8b0
                          try clear c8b1
                          try clear c10
                          try clear c10b0
                          try clear c10b1
                          try clear c11
                          try clear c13
                          try clear c13b0
                          try clear c13b1
                          try clear c14
                          try clear c14b0
                          try clear c14b1
                          try clear c15
                          try clear c15b0
                          try clear c15b1
                          try clear c16
                          try clear c17
                          try clear c17b0
                          try clear c17b1
                          try clear c19
                          try clear c19b0
                          try clear c19b1
                          try clear c22
                          try clear c22b0
                          try clear c22b1
                          try clear c24
                          try clear c25
                          try clear c26
                          try clear c26b0
                          try clear c26b1
                          try clear c27
                          try clear c27b0
                          try clear c27b1
                          try clear c28
                          try clear c31
                          try clear c31b0
                          try clear c31b1
                          try clear p2
                          try clear p6
                          obtain ⟨kq, x70_29, rfl, HA, HJ29, HB⟩ := hcut
                          cases kq with
                          | zero => exact absurd HA.out (by simp [wispref01_Binary.j2])
                          | succ kj29 =>
                            have H := HA.out
                            clear HA
                            simp only [wispref01_Binary.j2] at H
                            by_cases c32 : x70_29 = true
                            · subst c32
                              have H1 : (if a2 > 15 then (some (0, true)) else (if a0 = 40 then ((wispref01_power.f kj29 (wrap64 (a2))).bind fun t176 => ((wispref01_Cell.f (wrap64 ((wrap64 (a1)) * t176))).bind fun t177 => (some (t177, true)))) else ((wispref01_power.f kj29 (wrap64 (a2))).bind fun t178 => (if t178 = 0 then (none) else ((wispref01_Cell.f (wrap64 (Int.tdiv (wrap64 (a1)) t178))).bind fun t179 => (some (t179, true))))))) = some (r1, r2) := by rw [if_pos rfl] at H; exact H
                              clear H
                              have H := H1
                              clear H1
                              by_cases c33 : a2 > 15
                              · rw [if_pos c33] at H
                                have c33b0 : decide (15 < a2) = true := decide_eq_true c33
                                clear c33
                                simp only [Option.some.injEq, Prod.mk.injEq] at H
                                obtain ⟨rfl, rfl⟩ := H
                                go_wp2
                                go_ret2
                                exact ⟨by first | rfl | (simp [errW_none, errW_some] <;> rfl) | (simp [*, errW_none, errW_some] <;> rfl), by repeat (first | (with_reducible first | exact HB.out | apply below_alloc | apply pw_below_drewN | apply below_drew1) | exact HB.out)⟩
                              · rw [if_neg c33] at H
                                have c33b0 : decide (15 < a2) = false := decide_eq_false c33
                                clear c33
                                by_cases c34 : a0 = 40
                                · rw [if_pos c34] at H
                                  have c34b0 : (a0 == 40) = true := beq_iff_eq.mpr c34
                                  have c34b1 : (a0 != 40) = false := bne_eq_false_iff_eq.mpr c34
                                  clear c34
                                  replace H := Option.bind_eq_some_iff.mp H
                                  obtain ⟨t176, A350, H⟩ := H
                                  replace H : ((wispref01_Cell.f (wrap64 ((wrap64 (a1)) * t176))).bind fun t177 => (some (t177, true))) = some (r1, r2) := H
                                  have A35 := Aside0.mk A350
                                  clear A350
                                  replace H := Option.bind_eq_some_iff.mp H
                                  obtain ⟨t177, A360, H⟩ := H
                                  replace H : (some (t177, true)) = some (r1, r2) := H
                                  have A36 := Aside0.mk A360
                                  clear A360
                                  simp only [Option.some.injEq, Prod.mk.injEq] at H
                                  obtain ⟨rfl, rfl⟩ := H
                                  go_wp2_with (first | ((with_reducible refine gate_callee (f := 26) rfl ?_); refine goesL_ (some 81) rfl rfl Try.func26 (by kernel_rfl) rfl #[.int .i64 (wrap64 (a2))] rfl (by (try simp only [List.map_toArray, List.map_cons, List.map_nil]); first | done | rfl | (simp only [List.length_drop, List.length_take]; rfl)) ?_; (with_reducible refine (wispref01_power.calls kj29 (wrap64 (a2)) t176 _ A35.out).mono ?_); rintro e w' ⟨rfl, ⟨nd, rfl⟩⟩; refine ⟨_, rfl, ?_⟩) | ((with_reducible refine gate_callee (f := 13) rfl ?_); refine goesL_ (some 83) rfl rfl Try.func13 (by kernel_rfl) rfl #[.int .i64 (wrap64 ((wrap64 (a1)) * t176))] rfl (by (try simp only [List.map_toArray, List.map_cons, List.map_nil]); first | done | rfl | (simp only [List.length_drop, List.length_take]; rfl)) ?_; (with_reducible refine (wispref01_Cell.calls (wrap64 ((wrap64 (a1)) * t176)) t177 _ A36.out).mono ?_); rintro e w' ⟨rfl, ⟨nd, rfl⟩⟩; refine ⟨_, rfl, ?_⟩))
                                  go_ret2
                                  exact ⟨by first | rfl | (simp [errW_none, errW_some] <;> rfl) | (simp [*, errW_none, errW_some] <;> rfl), by repeat (first | (with_reducible first | exact HB.out | apply below_alloc | apply pw_below_drewN | apply below_drew1) | exact HB.out)⟩
                                · rw [if_neg c34] at H
                                  have c34b0 : (a0 == 40) = false := beq_eq_false_iff_ne.mpr c34
                                  have c34b1 : (a0 != 40) = true := bne_iff_ne.mpr c34
                                  replace H := Option.bind_eq_some_iff.mp H
                                  obtain ⟨t178, A370, H⟩ := H
                                  replace H : (if t178 = 0 then (none) else ((wispref01_Cell.f (wrap64 (Int.tdiv (wrap64 (a1)) t178))).bind fun t179 => (some (t179, true)))) = some (r1, r2) := H
                                  have A37 := Aside0.mk A370
                                  clear A370
                                  by_cases c38 : t178 = 0
                                  · rw [if_pos c38] at H
                                    exact absurd H (by simp)
                                  · rw [if_neg c38] at H
                                    have c38b0 : (t178 == 0) = false := beq_eq_false_iff_ne.mpr c38
                                    have c38b1 : (t178 != 0) = true := bne_iff_ne.mpr c38
                                    replace H := Option.bind_eq_some_iff.mp H
                                    obtain ⟨t179, A390, H⟩ := H
                                    replace H : (some (t179, true)) = some (r1, r2) := H
                                    have A39 := Aside0.mk A390
                                    clear A390
                                    simp only [Option.some.injEq, Prod.mk.injEq] at H
                                    obtain ⟨rfl, rfl⟩ := H
                                    go_wp2_with (first | ((with_reducible refine gate_callee (f := 26) rfl ?_); refine goesL_ (some 88) rfl rfl Try.func26 (by kernel_rfl) rfl #[.int .i64 (wrap64 (a2))] rfl (by (try simp only [List.map_toArray, List.map_cons, List.map_nil]); first | done | rfl | (simp only [List.length_drop, List.length_take]; rfl)) ?_; (with_reducible refine (wispref01_power.calls kj29 (wrap64 (a2)) t178 _ A37.out).mono ?_); rintro e w' ⟨rfl, ⟨nd, rfl⟩⟩; refine ⟨_, rfl, ?_⟩) | ((with_reducible refine gate_callee (f := 13) rfl ?_); refine goesL_ (some 90) rfl rfl Try.func13 (by kernel_rfl) rfl #[.int .i64 (wrap64 (Int.tdiv (wrap64 (a1)) t178))] rfl (by (try simp only [List.map_toArray, List.map_cons, List.map_nil]); first | done | rfl | (simp only [List.length_drop, List.length_take]; rfl)) ?_; (with_reducible refine (wispref01_Cell.calls (wrap64 (Int.tdiv (wrap64 (a1)) t178)) t179 _ A39.out).mono ?_); rintro e w' ⟨rfl, ⟨nd, rfl⟩⟩; refine ⟨_, rfl, ?_⟩))
                                    go_ret2
                                    exact ⟨by first | rfl | (simp [errW_none, errW_some] <;> rfl) | (simp [*, errW_none, errW_some] <;> rfl), by repeat (first | (with_reducible first | exact HB.out | apply below_alloc | apply pw_below_drewN | apply below_drew1) | exact HB.out)⟩
                            · replace c32 := Bool.eq_false_iff.mpr c32
                              subst c32
                              have H1 : (if a0 = 42 then ((wispref01_Flag.f (a1 == a2)).bind fun t180 => (some (t180, true))) else (if a0 = 43 then ((wispref01_Flag.f (a1 != a2)).bind fun t181 => (some (t181, true))) else (if a0 = 44 then ((wispref01_Flag.f (decide (t167 < t168))).bind fun t182 => (some (t182, true))) else (if a0 = 45 then ((wispref01_Flag.f (decide (t167 > t168))).bind fun t183 => (some (t183, true))) else (if a0 = 46 then ((wispref01_Flag.f (decide (a1 < a2))).bind fun t184 => (some (t184, true))) else (if a0 = 47 then ((wispref01_Flag.f (decide (a1 > a2))).bind fun t185 => (some (t185, true))) else (some (0, false)))))))) = some (r1, r2) := by rw [if_neg (show ¬ (false = true) by decide)] at H; exact H
                              clear H
                              have H := H1
                              clear H1
                              by_cases c40 : a0 = 42
                              · rw [if_pos c40] at H
                                have c40b0 : (a0 == 42) = true := beq_iff_eq.mpr c40
                                have c40b1 : (a0 != 42) = false := bne_eq_false_iff_eq.mpr c40
                                clear c40
                                replace H := Option.bind_eq_some_iff.mp H
                                obtain ⟨t180, A410, H⟩ := H
                                replace H : (some (t180, true)) = some (r1, r2) := H
                                have A41 := Aside0.mk A410
                                clear A410
                                simp only [Option.some.injEq, Prod.mk.injEq] at H
                                obtain ⟨rfl, rfl⟩ := H
                                go_wp2_with (first | ((with_reducible refine gate_callee (f := 15) rfl ?_); refine goesL_ (some 96) rfl rfl Try.func15 (by kernel_rfl) rfl #[.bool (a1 == a2)] rfl (by (try simp only [List.map_toArray, List.map_cons, List.map_nil]); first | done | rfl | (simp only [List.length_drop, List.length_take]; rfl)) ?_; (with_reducible refine (wispref01_Flag.calls (a1 == a2) t180 _ A41.out).mono ?_); rintro e w' ⟨rfl, ⟨nd, rfl⟩⟩; refine ⟨_, rfl, ?_⟩))
                                go_ret2
                                exact ⟨by first | rfl | (simp [errW_none, errW_some] <;> rfl) | (simp [*, errW_none, errW_some] <;> rfl), by repeat (first | (with_reducible first | exact HB.out | apply below_alloc | apply pw_below_drewN | apply below_drew1) | exact HB.out)⟩
                              · rw [if_neg c40] at H
                                have c40b0 : (a0 == 42) = false := beq_eq_false_iff_ne.mpr c40
                                have c40b1 : (a0 != 42) = true := bne_iff_ne.mpr c40
                                by_cases c42 : a0 = 43
                                · rw [if_pos c42] at H
                                  have c42b0 : (a0 == 43) = true := beq_iff_eq.mpr c42
                                  have c42b1 : (a0 != 43) = false := bne_eq_false_iff_eq.mpr c42
                                  clear c42
                                  replace H := Option.bind_eq_some_iff.mp H
                                  obtain ⟨t181, A430, H⟩ := H
                                  replace H : (some (t181, true)) = some (r1, r2) := H
                                  have A43 := Aside0.mk A430
                                  clear A430
                                  simp only [Option.some.injEq, Prod.mk.injEq] at H
                                  obtain ⟨rfl, rfl⟩ := H
                                  go_wp2_with (first | ((with_reducible refine gate_callee (f := 15) rfl ?_); refine goesL_ (some 102) rfl rfl Try.func15 (by kernel_rfl) rfl #[.bool (a1 != a2)] rfl (by (try simp only [List.map_toArray, List.map_cons, List.map_nil]); first | done | rfl | (simp only [List.length_drop, List.length_take]; rfl)) ?_; (with_reducible refine (wispref01_Flag.calls (a1 != a2) t181 _ A43.out).mono ?_); rintro e w' ⟨rfl, ⟨nd, rfl⟩⟩; refine ⟨_, rfl, ?_⟩))
                                  go_ret2
                                  exact ⟨by first | rfl | (simp [errW_none, errW_some] <;> rfl) | (simp [*, errW_none, errW_some] <;> rfl), by repeat (first | (with_reducible first | exact HB.out | apply below_alloc | apply pw_below_drewN | apply below_drew1) | exact HB.out)⟩
                                · rw [if_neg c42] at H
                                  have c42b0 : (a0 == 43) = false := beq_eq_false_iff_ne.mpr c42
                                  have c42b1 : (a0 != 43) = true := bne_iff_ne.mpr c42
                                  by_cases c44 : a0 = 44
                                  · rw [if_pos c44] at H
                                    have c44b0 : (a0 == 44) = true := beq_iff_eq.mpr c44
                                    have c44b1 : (a0 != 44) = false := bne_eq_false_iff_eq.mpr c44
                                    clear c44
                                    replace H := Option.bind_eq_some_iff.mp H
                                    obtain ⟨t182, A450, H⟩ := H
                                    replace H : (some (t182, true)) = some (r1, r2) := H
                                    have A45 := Aside0.mk A450
                                    clear A450
                                    simp only [Option.some.injEq, Prod.mk.injEq] at H
                                    obtain ⟨rfl, rfl⟩ := H
                                    go_wp2_with (first | ((with_reducible refine gate_callee (f := 15) rfl ?_); refine goesL_ (some 108) rfl rfl Try.func15 (by kernel_rfl) rfl #[.bool (decide (t167 < t168))] rfl (by (try simp only [List.map_toArray, List.map_cons, List.map_nil]); first | done | rfl | (simp only [List.length_drop, List.length_take]; rfl)) ?_; (with_reducible refine (wispref01_Flag.calls (decide (t167 < t168)) t182 _ A45.out).mono ?_); rintro e w' ⟨rfl, ⟨nd, rfl⟩⟩; refine ⟨_, rfl, ?_⟩))
                                    go_ret2
                                    exact ⟨by first | rfl | (simp [errW_none, errW_some] <;> rfl) | (simp [*, errW_none, errW_some] <;> rfl), by repeat (first | (with_reducible first | exact HB.out | apply below_alloc | apply pw_below_drewN | apply below_drew1) | exact HB.out)⟩
                                  · rw [if_neg c44] at H
                                    have c44b0 : (a0 == 44) = false := beq_eq_false_iff_ne.mpr c44
                                    have c44b1 : (a0 != 44) = true := bne_iff_ne.mpr c44
                                    by_cases c46 : a0 = 45
                                    · rw [if_pos c46] at H
                                      have c46b0 : (a0 == 45) = true := beq_iff_eq.mpr c46
                                      have c46b1 : (a0 != 45) = false := bne_eq_false_iff_eq.mpr c46
                                      clear c46
                                      replace H := Option.bind_eq_some_iff.mp H
                                      obtain ⟨t183, A470, H⟩ := H
                                      replace H : (some (t183, true)) = some (r1, r2) := H
                                      have A47 := Aside0.mk A470
                                      clear A470
                                      simp only [Option.some.injEq, Prod.mk.injEq] at H
                                      obtain ⟨rfl, rfl⟩ := H
                                      go_wp2_with (first | ((with_reducible refine gate_callee (f := 15) rfl ?_); refine goesL_ (some 114) rfl rfl Try.func15 (by kernel_rfl) rfl #[.bool (decide (t167 > t168))] rfl (by (try simp only [List.map_toArray, List.map_cons, List.map_nil]); first | done | rfl | (simp only [List.length_drop, List.length_take]; rfl)) ?_; (with_reducible refine (wispref01_Flag.calls (decide (t167 > t168)) t183 _ A47.out).mono ?_); rintro e w' ⟨rfl, ⟨nd, rfl⟩⟩; refine ⟨_, rfl, ?_⟩))
                                      go_ret2
                                      exact ⟨by first | rfl | (simp [errW_none, errW_some] <;> rfl) | (simp [*, errW_none, errW_some] <;> rfl), by repeat (first | (with_reducible first | exact HB.out | apply below_alloc | apply pw_below_drewN | apply below_drew1) | exact HB.out)⟩
                                    · rw [if_neg c46] at H
                                      have c46b0 : (a0 == 45) = false := beq_eq_false_iff_ne.mpr c46
                                      have c46b1 : (a0 != 45) = true := bne_iff_ne.mpr c46
                                      by_cases c48 : a0 = 46
                                      · rw [if_pos c48] at H
                                        have c48b0 : (a0 == 46) = true := beq_iff_eq.mpr c48
                                        have c48b1 : (a0 != 46) = false := bne_eq_false_iff_eq.mpr c48
                                        clear c48
                                        replace H := Option.bind_eq_some_iff.mp H
                                        obtain ⟨t184, A490, H⟩ := H
                                        replace H : (some (t184, true)) = some (r1, r2) := H
                                        have A49 := Aside0.mk A490
                                        clear A490
                                        simp only [Option.some.injEq, Prod.mk.injEq] at H
                                        obtain ⟨rfl, rfl⟩ := H
                                        go_wp2_with (first | ((with_reducible refine gate_callee (f := 15) rfl ?_); refine goesL_ (some 120) rfl rfl Try.func15 (by kernel_rfl) rfl #[.bool (decide (a1 < a2))] rfl (by (try simp only [List.map_toArray, List.map_cons, List.map_nil]); first | done | rfl | (simp only [List.length_drop, List.length_take]; rfl)) ?_; (with_reducible refine (wispref01_Flag.calls (decide (a1 < a2)) t184 _ A49.out).mono ?_); rintro e w' ⟨rfl, ⟨nd, rfl⟩⟩; refine ⟨_, rfl, ?_⟩))
                                        go_ret2
                                        exact ⟨by first | rfl | (simp [errW_none, errW_some] <;> rfl) | (simp [*, errW_none, errW_some] <;> rfl), by repeat (first | (with_reducible first | exact HB.out | apply below_alloc | apply pw_below_drewN | apply below_drew1) | exact HB.out)⟩
                                      · rw [if_neg c48] at H
                                        have c48b0 : (a0 == 46) = false := beq_eq_false_iff_ne.mpr c48
                                        have c48b1 : (a0 != 46) = true := bne_iff_ne.mpr c48
                                        by_cases c50 : a0 = 47
                                        · rw [if_pos c50] at H
                                          have c50b0 : (a0 == 47) = true := beq_iff_eq.mpr c50
                                          have c50b1 : (a0 != 47) = false := bne_eq_false_iff_eq.mpr c50
                                          clear c50
                                          replace H := Option.bind_eq_some_iff.mp H
                                          obtain ⟨t185, A510, H⟩ := H
                                          replace H : (some (t185, true)) = some (r1, r2) := H
                                          have A51 := Aside0.mk A510
                                          clear A510
                                          simp only [Option.some.injEq, Prod.mk.injEq] at H
                                          obtain ⟨rfl, rfl⟩ := H
                                          go_wp2_with (first | ((with_reducible refine gate_callee (f := 15) rfl ?_); refine goesL_ (some 126) rfl rfl Try.func15 (by kernel_rfl) rfl #[.bool (decide (a1 > a2))] rfl (by (try simp only [List.map_toArray, List.map_cons, List.map_nil]); first | done | rfl | (simp only [List.length_drop, List.length_take]; rfl)) ?_; (with_reducible refine (wispref01_Flag.calls (decide (a1 > a2)) t185 _ A51.out).mono ?_); rintro e w' ⟨rfl, ⟨nd, rfl⟩⟩; refine ⟨_, rfl, ?_⟩))
                                          go_ret2
                                          exact ⟨by first | rfl | (simp [errW_none, errW_some] <;> rfl) | (simp [*, errW_none, errW_some] <;> rfl), by repeat (first | (with_reducible first | exact HB.out | apply below_alloc | apply pw_below_drewN | apply below_drew1) | exact HB.out)⟩
                                        · rw [if_neg c50] at H
                                          have c50b0 : (a0 == 47) = false := beq_eq_false_iff_ne.mpr c50
                                          have c50b1 : (a0 != 47) = true := bne_iff_ne.mpr c50
                                          simp only [Option.some.injEq, Prod.mk.injEq] at H
                                          obtain ⟨rfl, rfl⟩ := H
                                          go_wp2
                                          go_ret2
                                          exact ⟨by first | rfl | (simp [errW_none, errW_some] <;> rfl) | (simp [*, errW_none, errW_some] <;> rfl), by repeat (first | (with_reducible first | exact HB.out | apply below_alloc | apply pw_below_drewN | apply below_drew1) | exact HB.out)⟩

end Go.Proofs.Ytgnjlgfnpfjjnaa.P
