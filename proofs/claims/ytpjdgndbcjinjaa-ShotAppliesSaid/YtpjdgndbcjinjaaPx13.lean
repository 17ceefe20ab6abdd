/- Printed by a program of this session (it turns the kit's print): see wip/myprint. -/
import Derived.Test.YtpjdgndbcjinjaaPx0
namespace Go.Proofs.Ytpjdgndbcjinjaa.P
open Go.RowKit Go.Proofs.YtpjdgndbcjinjaaW.PrintWords Go.Proofs.YtpjdgndbcjinjaaW.PrintLast Go.Proofs.YtpjdgndbcjinjaaW.PrintMore Go.Proofs.Ytpjdgndbcjinjaa.Mine
attribute [local go_sem] max2_int min2_int max_two min_two max_three min_three max_four min_four   -- for this text's walks alone
set_option linter.unusedVariables false
set_option linter.unusedSimpArgs false

/-! ### wisplaw20_same: function 14 -/
def wisplaw20_same.l0 : Nat → List (S42) → List (S43) → Int → Option (Bool)
  | 0, _, _, _ => none
  | k + 1, x0, x1, x5 => if x5 < (x0.length : Int) then (if 0 ≤ x5 then (if x5 < (x1.length : Int) then (if ((rd_T42 x0 x5).f0) = ((rd_T43 x1 x5).f0) then (if ((rd_T42 x0 x5).f1) = ((rd_T43 x1 x5).f1) then (if ((rd_T42 x0 x5).f2) = ((rd_T43 x1 x5).f2) then (if ((rd_T42 x0 x5).f3) = ((rd_T43 x1 x5).f3) then (wisplaw20_same.l0 k x0 x1 (wrap64 (x5 + 1))) else (some false)) else (some false)) else (some false)) else (some false)) else (none)) else (none)) else (some true)
def wisplaw20_same.f (k : Nat) (l0 : List (S42)) (l1 : List (S43)) : Option (Bool) := if (l0.length : Int) = (l1.length : Int) then (wisplaw20_same.l0 k l0 l1 0) else (some false)
theorem wisplaw20_same.mono_l : ∀ k, (∀ y0 y1 y2, LeO (wisplaw20_same.l0 k y0 y1 y2) (wisplaw20_same.l0 (k + 1) y0 y1 y2))
  | 0 => fun _ _ _ r h => by simp [wisplaw20_same.l0] at h
  | k + 1 => by
    have ih0 := wisplaw20_same.mono_l k
    · intro y0 y1 y2
      unfold wisplaw20_same.l0
      repeat' first
      | (with_reducible exact ih0 _ _ _)
      | (with_reducible exact LeO.refl _)
      | (with_reducible exact LeO.none _)
      | (with_reducible refine LeO.ite ?_ ?_)
      | (with_reducible refine LeO.bind ?_ (fun _ => ?_))
      | exact ih0 _ _ _
      | exact LeO.none _
      | refine LeO.ite ?_ ?_
      | refine LeO.bind ?_ (fun _ => ?_)
theorem wisplaw20_same.mono : ∀ a0 a1 k, LeO (wisplaw20_same.f k a0 a1) (wisplaw20_same.f (k + 1) a0 a1) := by
  intro a0 a1 k
  have ih0 := wisplaw20_same.mono_l k
  unfold wisplaw20_same.f
  repeat' first
      | (with_reducible exact ih0 _ _ _)
      | (with_reducible exact LeO.refl _)
      | (with_reducible exact LeO.none _)
      | (with_reducible refine LeO.ite ?_ ?_)
      | (with_reducible refine LeO.bind ?_ (fun _ => ?_))
      | exact ih0 _ _ _
      | exact LeO.none _
      | refine LeO.ite ?_ ?_
      | refine LeO.bind ?_ (fun _ => ?_)
set_option maxHeartbeats 8000000 in
set_option maxRecDepth 100000 in
theorem wisplaw20_same.calls (k : Nat) (A0 : Option Addr) (c0 : Nat) (l0 : List (S42)) (A1 : Option Addr) (c1 : Nat) (l1 : List (S43)) (r : Bool) (w : World) (hr0 : Kd.C k42 w A0 l0.length l0) (hc0 : l0.length ≤ c0) (hr1 : Kd.C k43 w A1 l1.length l1) (hc1 : l1.length ≤ c1) (h : wisplaw20_same.f k l0 l1 = some r) :
    Calls Try.prog 14 #[.slice A0 l0.length c0, .slice A1 l1.length c1] w fun e w' => e = .returned (.bool r) ∧ Drawn0 w w' := by
  have HR0 := Aside0.mk hr0
  have HC0 := Aside0.mk hc0
  clear hr0 hc0
  have HR1 := Aside0.mk hr1
  have HC1 := Aside0.mk hc1
  clear hr1 hc1
  have H : (if (l0.length : Int) = (l1.length : Int) then (wisplaw20_same.l0 k l0 l1 0) else (some false)) = some r := h
  clear h
  by_cases c3 : (l0.length : Int) = (l1.length : Int)
  · rw [if_pos c3] at H
    have c3b0 : ((l0.length : Int) == (l1.length : Int)) = true := beq_iff_eq.mpr c3
    have c3b1 : ((l0.length : Int) != (l1.length : Int)) = false := bne_eq_false_iff_eq.mpr c3
    have c3b2 : (l0.length == l1.length) = true := by first | simpa using c3 | (simp at c3 ⊢; omega)
    clear c3
    have H' := Aside0.mk H
    clear H
    go_enter Try.func14, Try.ntmps14
    go_wp2
    repeat (go_quiet (fail); try go_wp2)
    go_loopg [5] k (fun kq v5 w' => ∃ (x5_1 : Int), v5 = .int .i64 x5_1 ∧ Aside0 (wisplaw20_same.l0 kq l0 l1 x5_1 = some r) ∧ Aside0 (kq ≤ k) ∧ Drawn0 w w')
    case atStart => exact ⟨(0), (by first | rfl | (simp; done) | (simp [*]; done) | (simp [isEmpty_ne]; done)), H', ⟨Nat.le_refl _⟩, by repeat (first | exact Drawn0.refl _ | apply Drawn0.step)⟩
    case round =>
      clear H'
      try clear c1
      try clear p2
      try clear c3
      try clear c3b0
      try clear c3b1
      try clear c3b2
      obtain ⟨x5_1, rfl, HA, HK1, ⟨m1, rfl⟩⟩ := hrel
      cases gk with
      | zero => exact absurd HA.out (by simp [wisplaw20_same.l0])
      | succ k1 =>
        have H := HA.out
        clear HA
        simp only [wisplaw20_same.l0] at H
        by_cases c4 : x5_1 < (l0.length : Int)
        · rw [if_pos c4] at H
          have c4b0 : decide (x5_1 < (l0.length : Int)) = true := decide_eq_true c4
          clear c4
          by_cases c5 : 0 ≤ x5_1
          · rw [if_pos c5] at H
            have c5b0 : decide (0 ≤ x5_1) = true := decide_eq_true c5
            clear c5
            by_cases c6 : x5_1 < (l1.length : Int)
            · rw [if_pos c6] at H
              have c6b0 : decide (x5_1 < (l1.length : Int)) = true := decide_eq_true c6
              clear c6
              by_cases c7 : ((rd_T42 l0 x5_1).f0) = ((rd_T43 l1 x5_1).f0)
              · rw [if_pos c7] at H
                have c7b0 : (((rd_T42 l0 x5_1).f0) == ((rd_T43 l1 x5_1).f0)) = true := beq_iff_eq.mpr c7
                have c7b1 : (((rd_T42 l0 x5_1).f0) != ((rd_T43 l1 x5_1).f0)) = false := bne_eq_false_iff_eq.mpr c7
                clear c7
                by_cases c8 : ((rd_T42 l0 x5_1).f1) = ((rd_T43 l1 x5_1).f1)
                · rw [if_pos c8] at H
                  have c8b0 : (((rd_T42 l0 x5_1).f1) == ((rd_T43 l1 x5_1).f1)) = true := beq_iff_eq.mpr c8
                  have c8b1 : (((rd_T42 l0 x5_1).f1) != ((rd_T43 l1 x5_1).f1)) = false := bne_eq_false_iff_eq.mpr c8
                  clear c8
                  by_cases c9 : ((rd_T42 l0 x5_1).f2) = ((rd_T43 l1 x5_1).f2)
                  · rw [if_pos c9] at H
                    have c9b0 : (((rd_T42 l0 x5_1).f2) == ((rd_T43 l1 x5_1).f2)) = true := beq_iff_eq.mpr c9
                    have c9b1 : (((rd_T42 l0 x5_1).f2) != ((rd_T43 l1 x5_1).f2)) = false := bne_eq_false_iff_eq.mpr c9
                    clear c9
                    by_cases c10 : ((rd_T42 l0 x5_1).f3) = ((rd_T43 l1 x5_1).f3)
                    · rw [if_pos c10] at H
                      have c10b0 : (((rd_T42 l0 x5_1).f3) == ((rd_T43 l1 x5_1).f3)) = true := beq_iff_eq.mpr c10
                      have c10b1 : (((rd_T42 l0 x5_1).f3) != ((rd_T43 l1 x5_1).f3)) = false := bne_eq_false_iff_eq.mpr c10
                      clear c10
                      have H' := Aside0.mk H
                      clear H
                      have p353 : 0 ≤ (x5_1 : Int) := of_decide_eq_true (by first | (with_reducible assumption) | assumption)
                      have q353 : x5_1 < (l0.length : Int) := of_decide_eq_true (by first | (with_reducible assumption) | assumption)
                      obtain ⟨ad353, e353, hx353_0, hx353_1, hx353_2, hx353_3⟩ := at_T42 HR0.out x5_1 p353 q353
                      cases e353
                      replace p353 := eq_true p353
                      replace q353 := eq_true q353
                      have p354 : 0 ≤ (x5_1 : Int) := of_decide_eq_true (by first | (with_reducible assumption) | assumption)
                      have q354 : x5_1 < (l1.length : Int) := of_decide_eq_true (by first | (with_reducible assumption) | assumption)
                      obtain ⟨ad354, e354, hx354_0, hx354_1, hx354_2, hx354_3⟩ := at_T43 HR1.out x5_1 p354 q354
                      cases e354
                      replace p354 := eq_true p354
                      replace q354 := eq_true q354
                      have p355 : 0 ≤ (x5_1 : Int) := of_decide_eq_true (by first | (with_reducible assumption) | assumption)
                      have q355 : x5_1 < (l0.length : Int) := of_decide_eq_true (by first | (with_reducible assumption) | assumption)
                      obtain ⟨ad355, e355, hx355_0, hx355_1, hx355_2, hx355_3⟩ := at_T42 HR0.out x5_1 p355 q355
                      obtain rfl : ad353 = ad355 := (by injection e355)
                      replace p355 := eq_true p355
                      replace q355 := eq_true q355
                      have p356 : 0 ≤ (x5_1 : Int) := of_decide_eq_true (by first | (with_reducible assumption) | assumption)
                      have q356 : x5_1 < (l1.length : Int) := of_decide_eq_true (by first | (with_reducible assumption) | assumption)
                      obtain ⟨ad356, e356, hx356_0, hx356_1, hx356_2, hx356_3⟩ := at_T43 HR1.out x5_1 p356 q356
                      obtain rfl : ad354 = ad356 := (by injection e356)
                      replace p356 := eq_true p356
                      replace q356 := eq_true q356
                      have p357 : 0 ≤ (x5_1 : Int) := of_decide_eq_true (by first | (with_reducible assumption) | assumption)
                      have q357 : x5_1 < (l0.length : Int) := of_decide_eq_true (by first | (with_reducible assumption) | assumption)
                      obtain ⟨ad357, e357, hx357_0, hx357_1, hx357_2, hx357_3⟩ := at_T42 HR0.out x5_1 p357 q357
                      obtain rfl : ad353 = ad357 := (by injection e357)
                      replace p357 := eq_true p357
                      replace q357 := eq_true q357
                      have p358 : 0 ≤ (x5_1 : Int) := of_decide_eq_true (by first | (with_reducible assumption) | assumption)
                      have q358 : x5_1 < (l1.length : Int) := of_decide_eq_true (by first | (with_reducible assumption) | assumption)
                      obtain ⟨ad358, e358, hx358_0, hx358_1, hx358_2, hx358_3⟩ := at_T43 HR1.out x5_1 p358 q358
                      obtain rfl : ad354 = ad358 := (by injection e358)
                      replace p358 := eq_true p358
                      replace q358 := eq_true q358
                      have p359 : 0 ≤ (x5_1 : Int) := of_decide_eq_true (by first | (with_reducible assumption) | assumption)
                      have q359 : x5_1 < (l0.length : Int) := of_decide_eq_true (by first | (with_reducible assumption) | assumption)
                      obtain ⟨ad359, e359, hx359_0, hx359_1, hx359_2, hx359_3⟩ := at_T42 HR0.out x5_1 p359 q359
                      obtain rfl : ad353 = ad359 := (by injection e359)
                      replace p359 := eq_true p359
                      replace q359 := eq_true q359
                      have p360 : 0 ≤ (x5_1 : Int) := of_decide_eq_true (by first | (with_reducible assumption) | assumption)
                      have q360 : x5_1 < (l1.length : Int) := of_decide_eq_true (by first | (with_reducible assumption) | assumption)
                      obtain ⟨ad360, e360, hx360_0, hx360_1, hx360_2, hx360_3⟩ := at_T43 HR1.out x5_1 p360 q360
                      obtain rfl : ad354 = ad360 := (by injection e360)
                      replace p360 := eq_true p360
                      replace q360 := eq_true q360
                      go_wp2
                      repeat (go_quiet (fail); try go_wp2)
                      go_roundg k1
                      case measure => have := HK1.out; omega
                      case rel => exact ⟨(wrap64 (x5_1 + 1)), (by first | rfl | (simp; done) | (simp [*]; done) | (simp [isEmpty_ne]; done)), H', ⟨by have := HK1.out; omega⟩, by repeat (first | exact Drawn0.refl _ | apply Drawn0.step)⟩
                    · rw [if_neg c10] at H
                      have c10b0 : (((rd_T42 l0 x5_1).f3) == ((rd_T43 l1 x5_1).f3)) = false := beq_eq_false_iff_ne.mpr c10
                      have c10b1 : (((rd_T42 l0 x5_1).f3) != ((rd_T43 l1 x5_1).f3)) = true := bne_iff_ne.mpr c10
                      obtain rfl := Option.some.inj H
                      have p353 : 0 ≤ (x5_1 : Int) := of_decide_eq_true (by first | (with_reducible assumption) | assumption)
                      have q353 : x5_1 < (l0.length : Int) := of_decide_eq_true (by first | (with_reducible assumption) | assumption)
                      obtain ⟨ad353, e353, hx353_0, hx353_1, hx353_2, hx353_3⟩ := at_T42 HR0.out x5_1 p353 q353
                      cases e353
                      replace p353 := eq_true p353
                      replace q353 := eq_true q353
                      have p354 : 0 ≤ (x5_1 : Int) := of_decide_eq_true (by first | (with_reducible assumption) | assumption)
                      have q354 : x5_1 < (l1.length : Int) := of_decide_eq_true (by first | (with_reducible assumption) | assumption)
                      obtain ⟨ad354, e354, hx354_0, hx354_1, hx354_2, hx354_3⟩ := at_T43 HR1.out x5_1 p354 q354
                      cases e354
                      replace p354 := eq_true p354
                      replace q354 := eq_true q354
                      have p355 : 0 ≤ (x5_1 : Int) := of_decide_eq_true (by first | (with_reducible assumption) | assumption)
                      have q355 : x5_1 < (l0.length : Int) := of_decide_eq_true (by first | (with_reducible assumption) | assumption)
                      obtain ⟨ad355, e355, hx355_0, hx355_1, hx355_2, hx355_3⟩ := at_T42 HR0.out x5_1 p355 q355
                      obtain rfl : ad353 = ad355 := (by injection e355)
                      replace p355 := eq_true p355
                      replace q355 := eq_true q355
                      have p356 : 0 ≤ (x5_1 : Int) := of_decide_eq_true (by first | (with_reducible assumption) | assumption)
                      have q356 : x5_1 < (l1.length : Int) := of_decide_eq_true (by first | (with_reducible assumption) | assumption)
                      obtain ⟨ad356, e356, hx356_0, hx356_1, hx356_2, hx356_3⟩ := at_T43 HR1.out x5_1 p356 q356
                      obtain rfl : ad354 = ad356 := (by injection e356)
                      replace p356 := eq_true p356
                      replace q356 := eq_true q356
                      have p357 : 0 ≤ (x5_1 : Int) := of_decide_eq_true (by first | (with_reducible assumption) | assumption)
                      have q357 : x5_1 < (l0.length : Int) := of_decide_eq_true (by first | (with_reducible assumption) | assumption)
                      obtain ⟨ad357, e357, hx357_0, hx357_1, hx357_2, hx357_3⟩ := at_T42 HR0.out x5_1 p357 q357
                      obtain rfl : ad353 = ad357 := (by injection e357)
                      replace p357 := eq_true p357
                      replace q357 := eq_true q357
                      have p358 : 0 ≤ (x5_1 : Int) := of_decide_eq_true (by first | (with_reducible assumption) | assumption)
                      have q358 : x5_1 < (l1.length : Int) := of_decide_eq_true (by first | (with_reducible assumption) | assumption)
                      obtain ⟨ad358, e358, hx358_0, hx358_1, hx358_2, hx358_3⟩ := at_T43 HR1.out x5_1 p358 q358
                      obtain rfl : ad354 = ad358 := (by injection e358)
                      replace p358 := eq_true p358
                      replace q358 := eq_true q358
                      have p359 : 0 ≤ (x5_1 : Int) := of_decide_eq_true (by first | (with_reducible assumption) | assumption)
                      have q359 : x5_1 < (l0.length : Int) := of_decide_eq_true (by first | (with_reducible assumption) | assumption)
                      obtain ⟨ad359, e359, hx359_0, hx359_1, hx359_2, hx359_3⟩ := at_T42 HR0.out x5_1 p359 q359
                      obtain rfl : ad353 = ad359 := (by injection e359)
                      replace p359 := eq_true p359
                      replace q359 := eq_true q359
                      have p360 : 0 ≤ (x5_1 : Int) := of_decide_eq_true (by first | (with_reducible assumption) | assumption)
                      have q360 : x5_1 < (l1.length : Int) := of_decide_eq_true (by first | (with_reducible assumption) | assumption)
                      obtain ⟨ad360, e360, hx360_0, hx360_1, hx360_2, hx360_3⟩ := at_T43 HR1.out x5_1 p360 q360
                      obtain rfl : ad354 = ad360 := (by injection e360)
                      replace p360 := eq_true p360
                      replace q360 := eq_true q360
                      go_wp2
                      repeat (go_quiet (fail); try go_wp2)
                      go_ret
                      exact ⟨by first | rfl | (simp; done) | (simp [*]; done) | (simp [isEmpty_ne]; done), by repeat (first | exact Drawn0.refl _ | apply Drawn0.step)⟩
                  · rw [if_neg c9] at H
                    have c9b0 : (((rd_T42 l0 x5_1).f2) == ((rd_T43 l1 x5_1).f2)) = false := beq_eq_false_iff_ne.mpr c9
                    have c9b1 : (((rd_T42 l0 x5_1).f2) != ((rd_T43 l1 x5_1).f2)) = true := bne_iff_ne.mpr c9
                    obtain rfl := Option.some.inj H
                    have p353 : 0 ≤ (x5_1 : Int) := of_decide_eq_true (by first | (with_reducible assumption) | assumption)
                    have q353 : x5_1 < (l0.length : Int) := of_decide_eq_true (by first | (with_reducible assumption) | assumption)
                    obtain ⟨ad353, e353, hx353_0, hx353_1, hx353_2, hx353_3⟩ := at_T42 HR0.out x5_1 p353 q353
                    cases e353
                    replace p353 := eq_true p353
                    replace q353 := eq_true q353
                    have p354 : 0 ≤ (x5_1 : Int) := of_decide_eq_true (by first | (with_reducible assumption) | assumption)
                    have q354 : x5_1 < (l1.length : Int) := of_decide_eq_true (by first | (with_reducible assumption) | assumption)
                    obtain ⟨ad354, e354, hx354_0, hx354_1, hx354_2, hx354_3⟩ := at_T43 HR1.out x5_1 p354 q354
                    cases e354
                    replace p354 := eq_true p354
                    replace q354 := eq_true q354
                    have p355 : 0 ≤ (x5_1 : Int) := of_decide_eq_true (by first | (with_reducible assumption) | assumption)
                    have q355 : x5_1 < (l0.length : Int) := of_decide_eq_true (by first | (with_reducible assumption) | assumption)
                    obtain ⟨ad355, e355, hx355_0, hx355_1, hx355_2, hx355_3⟩ := at_T42 HR0.out x5_1 p355 q355
                    obtain rfl : ad353 = ad355 := (by injection e355)
                    replace p355 := eq_true p355
                    replace q355 := eq_true q355
                    have p356 : 0 ≤ (x5_1 : Int) := of_decide_eq_true (by first | (with_reducible assumption) | assumption)
                    have q356 : x5_1 < (l1.length : Int) := of_decide_eq_true (by first | (with_reducible assumption) | assumption)
                    obtain ⟨ad356, e356, hx356_0, hx356_1, hx356_2, hx356_3⟩ := at_T43 HR1.out x5_1 p356 q356
                    obtain rfl : ad354 = ad356 := (by injection e356)
                    replace p356 := eq_true p356
                    replace q356 := eq_true q356
                    have p357 : 0 ≤ (x5_1 : Int) := of_decide_eq_true (by first | (with_reducible assumption) | assumption)
                    have q357 : x5_1 < (l0.length : Int) := of_decide_eq_true (by first | (with_reducible assumption) | assumption)
                    obtain ⟨ad357, e357, hx357_0, hx357_1, hx357_2, hx357_3⟩ := at_T42 HR0.out x5_1 p357 q357
                    obtain rfl : ad353 = ad357 := (by injection e357)
                    replace p357 := eq_true p357
                    replace q357 := eq_true q357
                    have p358 : 0 ≤ (x5_1 : Int) := of_decide_eq_true (by first | (with_reducible assumption) | assumption)
                    have q358 : x5_1 < (l1.length : Int) := of_decide_eq_true (by first | (with_reducible assumption) | assumption)
                    obtain ⟨ad358, e358, hx358_0, hx358_1, hx358_2, hx358_3⟩ := at_T43 HR1.out x5_1 p358 q358
                    obtain rfl : ad354 = ad358 := (by injection e358)
                    replace p358 := eq_true p358
                    replace q358 := eq_true q358
                    go_wp2
                    repeat (go_quiet (fail); try go_wp2)
                    go_ret
                    exact ⟨by first | rfl | (simp; done) | (simp [*]; done) | (simp [isEmpty_ne]; done), by repeat (first | exact Drawn0.refl _ | apply Drawn0.step)⟩
                · rw [if_neg c8] at H
                  have c8b0 : (((rd_T42 l0 x5_1).f1) == ((rd_T43 l1 x5_1).f1)) = false := beq_eq_false_iff_ne.mpr c8
                  have c8b1 : (((rd_T42 l0 x5_1).f1) != ((rd_T43 l1 x5_1).f1)) = true := bne_iff_ne.mpr c8
                  obtain rfl := Option.some.inj H
                  have p353 : 0 ≤ (x5_1 : Int) := of_decide_eq_true (by first | (with_reducible assumption) | assumption)
                  have q353 : x5_1 < (l0.length : Int) := of_decide_eq_true (by first | (with_reducible assumption) | assumption)
                  obtain ⟨ad353, e353, hx353_0, hx353_1, hx353_2, hx353_3⟩ := at_T42 HR0.out x5_1 p353 q353
                  cases e353
                  replace p353 := eq_true p353
                  replace q353 := eq_true q353
                  have p354 : 0 ≤ (x5_1 : Int) := of_decide_eq_true (by first | (with_reducible assumption) | assumption)
                  have q354 : x5_1 < (l1.length : Int) := of_decide_eq_true (by first | (with_reducible assumption) | assumption)
                  obtain ⟨ad354, e354, hx354_0, hx354_1, hx354_2, hx354_3⟩ := at_T43 HR1.out x5_1 p354 q354
                  cases e354
                  replace p354 := eq_true p354
                  replace q354 := eq_true q354
                  have p355 : 0 ≤ (x5_1 : Int) := of_decide_eq_true (by first | (with_reducible assumption) | assumption)
                  have q355 : x5_1 < (l0.length : Int) := of_decide_eq_true (by first | (with_reducible assumption) | assumption)
                  obtain ⟨ad355, e355, hx355_0, hx355_1, hx355_2, hx355_3⟩ := at_T42 HR0.out x5_1 p355 q355
                  obtain rfl : ad353 = ad355 := (by injection e355)
                  replace p355 := eq_true p355
                  replace q355 := eq_true q355
                  have p356 : 0 ≤ (x5_1 : Int) := of_decide_eq_true (by first | (with_reducible assumption) | assumption)
                  have q356 : x5_1 < (l1.length : Int) := of_decide_eq_true (by first | (with_reducible assumption) | assumption)
                  obtain ⟨ad356, e356, hx356_0, hx356_1, hx356_2, hx356_3⟩ := at_T43 HR1.out x5_1 p356 q356
                  obtain rfl : ad354 = ad356 := (by injection e356)
                  replace p356 := eq_true p356
                  replace q356 := eq_true q356
                  go_wp2
                  repeat (go_quiet (fail); try go_wp2)
                  go_ret
                  exact ⟨by first | rfl | (simp; done) | (simp [*]; done) | (simp [isEmpty_ne]; done), by repeat (first | exact Drawn0.refl _ | apply Drawn0.step)⟩
              · rw [if_neg c7] at H
                have c7b0 : (((rd_T42 l0 x5_1).f0) == ((rd_T43 l1 x5_1).f0)) = false := beq_eq_false_iff_ne.mpr c7
                have c7b1 : (((rd_T42 l0 x5_1).f0) != ((rd_T43 l1 x5_1).f0)) = true := bne_iff_ne.mpr c7
                obtain rfl := Option.some.inj H
                have p353 : 0 ≤ (x5_1 : Int) := of_decide_eq_true (by first | (with_reducible assumption) | assumption)
                have q353 : x5_1 < (l0.length : Int) := of_decide_eq_true (by first | (with_reducible assumption) | assumption)
                obtain ⟨ad353, e353, hx353_0, hx353_1, hx353_2, hx353_3⟩ := at_T42 HR0.out x5_1 p353 q353
                cases e353
                replace p353 := eq_true p353
                replace q353 := eq_true q353
                have p354 : 0 ≤ (x5_1 : Int) := of_decide_eq_true (by first | (with_reducible assumption) | assumption)
                have q354 : x5_1 < (l1.length : Int) := of_decide_eq_true (by first | (with_reducible assumption) | assumption)
                obtain ⟨ad354, e354, hx354_0, hx354_1, hx354_2, hx354_3⟩ := at_T43 HR1.out x5_1 p354 q354
                cases e354
                replace p354 := eq_true p354
                replace q354 := eq_true q354
                go_wp2
                repeat (go_quiet (fail); try go_wp2)
                go_ret
                exact ⟨by first | rfl | (simp; done) | (simp [*]; done) | (simp [isEmpty_ne]; done), by repeat (first | exact Drawn0.refl _ | apply Drawn0.step)⟩
            · rw [if_neg c6] at H
              exact absurd H (by simp)
          · rw [if_neg c5] at H
            exact absurd H (by simp)
        · rw [if_neg c4] at H
          have c4b0 : decide (x5_1 < (l0.length : Int)) = false := decide_eq_false c4
          clear c4
          obtain rfl := Option.some.inj H
          go_wp2
          repeat (go_quiet (fail); try go_wp2)
          go_ret
          exact ⟨by first | rfl | (simp; done) | (simp [*]; done) | (simp [isEmpty_ne]; done), by repeat (first | exact Drawn0.refl _ | apply Drawn0.step)⟩
  · rw [if_neg c3] at H
    have c3b0 : ((l0.length : Int) == (l1.length : Int)) = false := beq_eq_false_iff_ne.mpr c3
    have c3b1 : ((l0.length : Int) != (l1.length : Int)) = true := bne_iff_ne.mpr c3
    have c3b2 : (l0.length == l1.length) = false := by first | simpa using c3 | (simp at c3 ⊢; omega)
    obtain rfl := Option.some.inj H
    go_enter Try.func14, Try.ntmps14
    go_wp2
    repeat (go_quiet (fail); try go_wp2)
    go_ret
    exact ⟨by first | rfl | (simp; done) | (simp [*]; done) | (simp [isEmpty_ne]; done), by repeat (first | exact Drawn0.refl _ | apply Drawn0.step)⟩

-- NOT PRINTED: function 15 (wisplaw20_apart)

-- NOT PRINTED: function 3 (wisplaw20_ShotDiffs)

/-! ### wisplaw20_changes: function 16 -/
def wisplaw20_changes.l0 : Nat → List (S43) → List (S42) → Int → Option ((List (S42)))
  | 0, _, _, _ => none
  | k + 1, x0, x3, x4 => if x4 < (x0.length : Int) then (if 0 ≤ x4 then (if x3.length < 5864062014805 then (wisplaw20_changes.l0 k x0 (x3 ++ [(⟨(rd_T43 x0 x4).f0, (rd_T43 x0 x4).f1, (rd_T43 x0 x4).f2, (rd_T43 x0 x4).f3⟩ : S42)]) (wrap64 (x4 + 1))) else (none)) else (none)) else (if x3.length < 5864062014805 then ((some (x3 ++ [(⟨777, 0, 0, 0⟩ : S42)] : List (S42))).bind fun y407 => (if 0 ≤ (x0.length : Int) then (if (x0.length : Int) ≤ (y407.length : Int) then (some (y407.take ((x0.length : Int) : Int).toNat)) else (none)) else (none))) else (none))
def wisplaw20_changes.f (k : Nat) (l0 : List (S43)) : Option ((List (S42))) := wisplaw20_changes.l0 k l0 ([] : List (S42)) 0
theorem wisplaw20_changes.mono_l : ∀ k, (∀ y0 y1 y2, LeO (wisplaw20_changes.l0 k y0 y1 y2) (wisplaw20_changes.l0 (k + 1) y0 y1 y2))
  | 0 => fun _ _ _ r h => by simp [wisplaw20_changes.l0] at h
  | k + 1 => by
    have ih0 := wisplaw20_changes.mono_l k
    · intro y0 y1 y2
      unfold wisplaw20_changes.l0
      repeat' first
      | (with_reducible exact ih0 _ _ _)
      | (with_reducible exact LeO.refl _)
      | (with_reducible exact LeO.none _)
      | (with_reducible refine LeO.ite ?_ ?_)
      | (with_reducible refine LeO.bind ?_ (fun _ => ?_))
      | exact ih0 _ _ _
      | exact LeO.none _
      | refine LeO.ite ?_ ?_
      | refine LeO.bind ?_ (fun _ => ?_)
theorem wisplaw20_changes.mono : ∀ a0 k, LeO (wisplaw20_changes.f k a0) (wisplaw20_changes.f (k + 1) a0) := by
  intro a0 k
  have ih0 := wisplaw20_changes.mono_l k
  unfold wisplaw20_changes.f
  repeat' first
      | (with_reducible exact ih0 _ _ _)
      | (with_reducible exact LeO.refl _)
      | (with_reducible exact LeO.none _)
      | (with_reducible refine LeO.ite ?_ ?_)
      | (with_reducible refine LeO.bind ?_ (fun _ => ?_))
      | exact ih0 _ _ _
      | exact LeO.none _
      | refine LeO.ite ?_ ?_
      | refine LeO.bind ?_ (fun _ => ?_)
def wisplaw20_changes.T5 : Bool × List (List Nat × List Nat) := (true, [([], []), ([], []), ([], []), ([1, 2], [1, 2]), ([3], [3]), ([4], [4]), ([], []), ([], []), ([6, 7], [6, 7]), ([8], [8]), ([9], [9]), ([], []), ([], []), ([11, 12], [11, 12]), ([13], [13]), ([14], [14]), ([], []), ([], []), ([16, 17], [16, 17]), ([18], [18]), ([19], [19]), ([5, 10, 15, 20], [5, 10, 15, 20]), ([21], [21]), ([0, 22], [0, 22]), ([23, 23, 0, 1, 2, 3, 4, 5, 6, 7, 8, 9, 10, 11, 12, 13, 14, 15, 16, 17, 18, 19, 20, 21, 22, 23], [0, 23])])
def wisplaw20_changes.B5 : List Nat := [0, 0, 0, 6, 14, 30, 0, 0, 192, 448, 960, 0, 0, 6144, 14336, 30720, 0, 0, 196608, 458752, 983040, 2097150, 4194302, 8388607, 16777215]
theorem wisplaw20_changes.tab5 : rtab .any (opsOf Try.f16 5) = wisplaw20_changes.T5 := by kernel_rfl
theorem wisplaw20_changes.bits5 : waitsOk wisplaw20_changes.T5.2 wisplaw20_changes.B5 = true := by kernel_rfl
set_option maxHeartbeats 8000000 in
set_option maxRecDepth 100000 in
theorem wisplaw20_changes.calls (k : Nat) (A0 : Option Addr) (c0 : Nat) (l0 : List (S43)) (r : List (S42)) (w : World) (hr0 : Kd.C k43 w A0 l0.length l0) (hc0 : l0.length ≤ c0) (h : wisplaw20_changes.f k l0 = some r) :
    Calls Try.prog 16 #[.slice A0 l0.length c0] w fun e w' => ∃ v0_ : Value, e = .returned (v0_) ∧ Kd.R k42 42 w' w.heap.size (fun _ => True) v0_ r ∧ Below w.heap.size w w' := by
  have hu42 := Try.underlying42
  have HR0 := Aside0.mk hr0
  have HC0 := Aside0.mk hc0
  clear hr0 hc0
  have HB := Aside0.mk (Below.refl w.heap.size w)
  have H : (wisplaw20_changes.l0 k l0 ([] : List (S42)) 0) = some r := h
  clear h
  have H' := Aside0.mk H
  clear H
  go_enter Try.func16, Try.ntmps16
  go_wp2
  go_loopg [3, 4] k (fun kq v3 v4 w' => ∃ (x3_1 : List (S42)) (x4_1 : Int), v4 = .int .i64 x4_1 ∧ Aside0 (wisplaw20_changes.l0 kq l0 x3_1 x4_1 = some r) ∧ Aside0 (kq ≤ k) ∧ Aside0 (Kd.R k42 42 w' w.heap.size (fun _ => True) v3 x3_1) ∧ Aside0 (Below w.heap.size w w'))
  case atStart => exact ⟨(([] : List (S42))), (0), (by first | rfl | (simp; done) | (simp [*]; done) | (simp [isEmpty_ne]; done)), H', ⟨Nat.le_refl _⟩, ⟨by first | exact Kd.R_nil _ _ _ _ _ | exact Kd.N_nil _ _ _ _ _ | exact Kd.V_nil _ _ _ _ _ | exact Kd.Q_nil _ _ _ _ _ | exact Kd.S_nil _ _ _ _ _⟩, ⟨by repeat (first | (with_reducible first | exact HB.out | apply below_alloc | apply pw_below_drewN | apply below_drew1) | exact HB.out)⟩⟩
  case round =>
    clear H'
    try clear c1
    obtain ⟨x3_1, x4_1, rfl, HA, HK1, HO_3, HB⟩ := hrel
    cases gk with
    | zero => exact absurd HA.out (by simp [wisplaw20_changes.l0])
    | succ k1 =>
      have H := HA.out
      clear HA
      simp only [wisplaw20_changes.l0] at H
      by_cases c2 : x4_1 < (l0.length : Int)
      · rw [if_pos c2] at H
        have c2b0 : decide (x4_1 < (l0.length : Int)) = true := decide_eq_true c2
        clear c2
        by_cases c3 : 0 ≤ x4_1
        · rw [if_pos c3] at H
          have c3b0 : decide (0 ≤ x4_1) = true := decide_eq_true c3
          clear c3
          by_cases c4 : x3_1.length < 5864062014805
          · rw [if_pos c4] at H
            have LMc4 := Aside0.mk c4
            clear c4
            obtain ⟨y404, hy404⟩ : ∃ y_ : List (S42), y_ = (x3_1 ++ [(⟨(rd_T43 l0 x4_1).f0, (rd_T43 l0 x4_1).f1, (rd_T43 l0 x4_1).f2, (rd_T43 l0 x4_1).f3⟩ : S42)]) := ⟨_, rfl⟩
            replace H : (wisplaw20_changes.l0 k1 l0 y404 (wrap64 (x4_1 + 1))) = some r := by first | (rw [hy404]; with_reducible exact H) | (have H2_ := (Option.bind_some _ _).symm.trans H; rw [hy404]; with_reducible exact H2_) | (have H2_ := (Option.bind_some _ _).symm.trans H; with_reducible exact H2_) | with_reducible exact H | (rw [hy404]; exact H) | exact H
            have Ny404 := Aside0.mk hy404
            clear hy404
            have H' := Aside0.mk H
            clear H
            try go_wp2
            have n0_ := Aside0.mk (Kd.R_drew HO_3.out)
            have n1_ := Aside0.mk (below_drew1 HB.out)
            clear HO_3
            clear HB
            have HO_3 := n0_
            have HB := n1_
            clear n0_ n1_
            have p400 : 0 ≤ (x4_1 : Int) := of_decide_eq_true (by first | (with_reducible assumption) | assumption)
            have q400 : x4_1 < (l0.length : Int) := of_decide_eq_true (by first | (with_reducible assumption) | assumption)
            obtain ⟨ad400, e400, hx400_0, hx400_1, hx400_2, hx400_3⟩ := at_T43 HR0.out x4_1 p400 q400
            have hw400_3 := hx400_3
            have hw400_2 := hx400_2
            have hw400_1 := hx400_1
            have hw400_0 := hx400_0
            cases e400
            replace hx400_0 := (HB.out.cell (World.block_lt_of_cell? w _ hx400_0)).trans hx400_0
            replace hx400_1 := (HB.out.cell (World.block_lt_of_cell? w _ hx400_1)).trans hx400_1
            replace hx400_2 := (HB.out.cell (World.block_lt_of_cell? w _ hx400_2)).trans hx400_2
            replace hx400_3 := (HB.out.cell (World.block_lt_of_cell? w _ hx400_3)).trans hx400_3
            replace p400 := eq_true p400
            replace q400 := eq_true q400
            have p401 : 0 ≤ (x4_1 : Int) := of_decide_eq_true (by first | (with_reducible assumption) | assumption)
            have q401 : x4_1 < (l0.length : Int) := of_decide_eq_true (by first | (with_reducible assumption) | assumption)
            obtain ⟨ad401, e401, hx401_0, hx401_1, hx401_2, hx401_3⟩ := at_T43 HR0.out x4_1 p401 q401
            have hw401_3 := hx401_3
            have hw401_2 := hx401_2
            have hw401_1 := hx401_1
            have hw401_0 := hx401_0
            obtain rfl : ad400 = ad401 := (by injection e401)
            replace hx401_0 := (HB.out.cell (World.block_lt_of_cell? w _ hx401_0)).trans hx401_0
            replace hx401_1 := (HB.out.cell (World.block_lt_of_cell? w _ hx401_1)).trans hx401_1
            replace hx401_2 := (HB.out.cell (World.block_lt_of_cell? w _ hx401_2)).trans hx401_2
            replace hx401_3 := (HB.out.cell (World.block_lt_of_cell? w _ hx401_3)).trans hx401_3
            replace p401 := eq_true p401
            replace q401 := eq_true q401
            have p402 : 0 ≤ (x4_1 : Int) := of_decide_eq_true (by first | (with_reducible assumption) | assumption)
            have q402 : x4_1 < (l0.length : Int) := of_decide_eq_true (by first | (with_reducible assumption) | assumption)
            obtain ⟨ad402, e402, hx402_0, hx402_1, hx402_2, hx402_3⟩ := at_T43 HR0.out x4_1 p402 q402
            have hw402_3 := hx402_3
            have hw402_2 := hx402_2
            have hw402_1 := hx402_1
            have hw402_0 := hx402_0
            obtain rfl : ad400 = ad402 := (by injection e402)
            replace hx402_0 := (HB.out.cell (World.block_lt_of_cell? w _ hx402_0)).trans hx402_0
            replace hx402_1 := (HB.out.cell (World.block_lt_of_cell? w _ hx402_1)).trans hx402_1
            replace hx402_2 := (HB.out.cell (World.block_lt_of_cell? w _ hx402_2)).trans hx402_2
            replace hx402_3 := (HB.out.cell (World.block_lt_of_cell? w _ hx402_3)).trans hx402_3
            replace p402 := eq_true p402
            replace q402 := eq_true q402
            have p403 : 0 ≤ (x4_1 : Int) := of_decide_eq_true (by first | (with_reducible assumption) | assumption)
            have q403 : x4_1 < (l0.length : Int) := of_decide_eq_true (by first | (with_reducible assumption) | assumption)
            obtain ⟨ad403, e403, hx403_0, hx403_1, hx403_2, hx403_3⟩ := at_T43 HR0.out x4_1 p403 q403
            have hw403_3 := hx403_3
            have hw403_2 := hx403_2
            have hw403_1 := hx403_1
            have hw403_0 := hx403_0
            obtain rfl : ad400 = ad403 := (by injection e403)
            replace hx403_0 := (HB.out.cell (World.block_lt_of_cell? w _ hx403_0)).trans hx403_0
            replace hx403_1 := (HB.out.cell (World.block_lt_of_cell? w _ hx403_1)).trans hx403_1
            replace hx403_2 := (HB.out.cell (World.block_lt_of_cell? w _ hx403_2)).trans hx403_2
            replace hx403_3 := (HB.out.cell (World.block_lt_of_cell? w _ hx403_3)).trans hx403_3
            replace p403 := eq_true p403
            replace q403 := eq_true q403
            refine start_ (n := 25) (S := fun w' => w'.cell? (ad400.add ((x4_1).toNat * 4)) = some (.int .i64 ((rd_T43 l0 x4_1).f0)) ∧ w'.cell? ⟨(ad400.add ((x4_1).toNat * 4)).block, (ad400.add ((x4_1).toNat * 4)).off + 1, none⟩ = some (.int .i64 ((rd_T43 l0 x4_1).f1)) ∧ w'.cell? ⟨(ad400.add ((x4_1).toNat * 4)).block, (ad400.add ((x4_1).toNat * 4)).off + 2, none⟩ = some (.int .u8 ((rd_T43 l0 x4_1).f2)) ∧ w'.cell? ⟨(ad400.add ((x4_1).toNat * 4)).block, (ad400.add ((x4_1).toNat * 4)).off + 3, none⟩ = some (.int .u8 ((rd_T43 l0 x4_1).f3)) ∧ w'.cell? (ad400.add ((x4_1).toNat * 4)) = some (.int .i64 ((rd_T43 l0 x4_1).f0)) ∧ w'.cell? ⟨(ad400.add ((x4_1).toNat * 4)).block, (ad400.add ((x4_1).toNat * 4)).off + 1, none⟩ = some (.int .i64 ((rd_T43 l0 x4_1).f1)) ∧ w'.cell? ⟨(ad400.add ((x4_1).toNat * 4)).block, (ad400.add ((x4_1).toNat * 4)).off + 2, none⟩ = some (.int .u8 ((rd_T43 l0 x4_1).f2)) ∧ w'.cell? ⟨(ad400.add ((x4_1).toNat * 4)).block, (ad400.add ((x4_1).toNat * 4)).off + 3, none⟩ = some (.int .u8 ((rd_T43 l0 x4_1).f3)) ∧ w'.cell? (ad400.add ((x4_1).toNat * 4)) = some (.int .i64 ((rd_T43 l0 x4_1).f0)) ∧ w'.cell? ⟨(ad400.add ((x4_1).toNat * 4)).block, (ad400.add ((x4_1).toNat * 4)).off + 1, none⟩ = some (.int .i64 ((rd_T43 l0 x4_1).f1)) ∧ w'.cell? ⟨(ad400.add ((x4_1).toNat * 4)).block, (ad400.add ((x4_1).toNat * 4)).off + 2, none⟩ = some (.int .u8 ((rd_T43 l0 x4_1).f2)) ∧ w'.cell? ⟨(ad400.add ((x4_1).toNat * 4)).block, (ad400.add ((x4_1).toNat * 4)).off + 3, none⟩ = some (.int .u8 ((rd_T43 l0 x4_1).f3)) ∧ w'.cell? (ad400.add ((x4_1).toNat * 4)) = some (.int .i64 ((rd_T43 l0 x4_1).f0)) ∧ w'.cell? ⟨(ad400.add ((x4_1).toNat * 4)).block, (ad400.add ((x4_1).toNat * 4)).off + 1, none⟩ = some (.int .i64 ((rd_T43 l0 x4_1).f1)) ∧ w'.cell? ⟨(ad400.add ((x4_1).toNat * 4)).block, (ad400.add ((x4_1).toNat * 4)).off + 2, none⟩ = some (.int .u8 ((rd_T43 l0 x4_1).f2)) ∧ w'.cell? ⟨(ad400.add ((x4_1).toNat * 4)).block, (ad400.add ((x4_1).toNat * 4)).off + 3, none⟩ = some (.int .u8 ((rd_T43 l0 x4_1).f3))) (ds := []) #[false, false, false, false, false, false, false, false, false, false, false, false, false, false, false, false, false, false, false, false, false, false, false, false, false] (by kernel_rfl) rfl rfl ⟨((HB.out.cell (World.block_lt_of_cell? w _ hw400_0)).trans hw400_0), ((HB.out.cell (World.block_lt_of_cell? w _ hw400_1)).trans hw400_1), ((HB.out.cell (World.block_lt_of_cell? w _ hw400_2)).trans hw400_2), ((HB.out.cell (World.block_lt_of_cell? w _ hw400_3)).trans hw400_3), ((HB.out.cell (World.block_lt_of_cell? w _ hw401_0)).trans hw401_0), ((HB.out.cell (World.block_lt_of_cell? w _ hw401_1)).trans hw401_1), ((HB.out.cell (World.block_lt_of_cell? w _ hw401_2)).trans hw401_2), ((HB.out.cell (World.block_lt_of_cell? w _ hw401_3)).trans hw401_3), ((HB.out.cell (World.block_lt_of_cell? w _ hw402_0)).trans hw402_0), ((HB.out.cell (World.block_lt_of_cell? w _ hw402_1)).trans hw402_1), ((HB.out.cell (World.block_lt_of_cell? w _ hw402_2)).trans hw402_2), ((HB.out.cell (World.block_lt_of_cell? w _ hw402_3)).trans hw402_3), ((HB.out.cell (World.block_lt_of_cell? w _ hw403_0)).trans hw403_0), ((HB.out.cell (World.block_lt_of_cell? w _ hw403_1)).trans hw403_1), ((HB.out.cell (World.block_lt_of_cell? w _ hw403_2)).trans hw403_2), ((HB.out.cell (World.block_lt_of_cell? w _ hw403_3)).trans hw403_3)⟩ (fun hHeld => ?_); refine with_tabW wisplaw20_changes.tab5 wisplaw20_changes.bits5 (fun HT_ HW_ => ?_)
            generalize wr.drew = w5 at HO_3 HB hx400_0 hx400_1 hx400_2 hx400_3 hx401_0 hx401_1 hx401_2 hx401_3 hx402_0 hx402_1 hx402_2 hx402_3 hx403_0 hx403_1 hx403_2 hx403_3 hHeld ⊢
            refine pure_ (i := 0) (N := some 11) (v := ?_) (a' := ?_) #[true, false, false, false, false, false, false, false, false, false, false, false, false, false, false, false, false, false, false, false, false, false, false, false, false] rfl rfl (any_of HT_.out (by kernel_rfl)) (fun _ _ _ h => h) (Or.inl ⟨by rfl, ?_⟩) ?_ ?_
            rotate_left
            · intro w'
              go_simp
              with_reducible rfl
            rotate_left
            · simp only [Act.put, List.setIfInBounds_toArray, List.set_cons_zero, List.set_cons_succ, i64_w, i32_w]
              rfl
            refine pure_ (i := 1) (N := some 12) (v := ?_) (a' := ?_) #[true, true, false, false, false, false, false, false, false, false, false, false, false, false, false, false, false, false, false, false, false, false, false, false, false] rfl rfl (any_of HT_.out (by kernel_rfl)) (fun _ _ _ h => h) (Or.inl ⟨by rfl, ?_⟩) ?_ ?_
            rotate_left
            · intro w'
              go_simp
              with_reducible rfl
            rotate_left
            · simp only [Act.put, List.setIfInBounds_toArray, List.set_cons_zero, List.set_cons_succ, i64_w, i32_w]
              rfl
            refine pure_ (i := 2) (N := some 13) (v := ?_) (a' := ?_) #[true, true, true, false, false, false, false, false, false, false, false, false, false, false, false, false, false, false, false, false, false, false, false, false, false] rfl rfl (any_of HT_.out (by kernel_rfl)) (fun _ _ _ h => h) (Or.inl ⟨by rfl, ?_⟩) ?_ ?_
            rotate_left
            · intro w'
              go_simp
              with_reducible rfl
            rotate_left
            · simp only [Act.put, List.setIfInBounds_toArray, List.set_cons_zero, List.set_cons_succ, i64_w, i32_w]
              rfl
            refine pure_ (i := 3) (N := some 14) (v := ?_) (a' := ?_) #[true, true, true, true, false, false, false, false, false, false, false, false, false, false, false, false, false, false, false, false, false, false, false, false, false] rfl rfl (any_of HT_.out (by kernel_rfl)) (fun _ _ _ h => h) (Or.inl ⟨by rfl, ?_⟩) ?_ ?_
            rotate_left
            · intro w'
              go_simp
              with_reducible rfl
            rotate_left
            · simp only [Act.put, List.setIfInBounds_toArray, List.set_cons_zero, List.set_cons_succ, i64_w, i32_w]
              rfl
            refine pure_ (i := 4) (N := some 15) (v := ?_) (a' := ?_) #[true, true, true, true, true, false, false, false, false, false, false, false, false, false, false, false, false, false, false, false, false, false, false, false, false] rfl rfl (any_of HT_.out (by kernel_rfl)) (fun _ _ _ h => h) (Or.inl ⟨by rfl, ?_⟩) ?_ ?_
            rotate_left
            · intro w'
              go_simp
              with_reducible rfl
            rotate_left
            · simp only [Act.put, List.setIfInBounds_toArray, List.set_cons_zero, List.set_cons_succ, i64_w, i32_w]
              rfl
            refine pure_ (i := 6) (N := some 17) (v := ?_) (a' := ?_) #[true, true, true, true, true, false, true, false, false, false, false, false, false, false, false, false, false, false, false, false, false, false, false, false, false] rfl rfl (any_of HT_.out (by kernel_rfl)) (fun _ _ _ h => h) (Or.inl ⟨by rfl, ?_⟩) ?_ ?_
            rotate_left
            · intro w'
              go_simp
              with_reducible rfl
            rotate_left
            · simp only [Act.put, List.setIfInBounds_toArray, List.set_cons_zero, List.set_cons_succ, i64_w, i32_w]
              rfl
            refine pure_ (i := 7) (N := some 18) (v := ?_) (a' := ?_) #[true, true, true, true, true, false, true, true, false, false, false, false, false, false, false, false, false, false, false, false, false, false, false, false, false] rfl rfl (any_of HT_.out (by kernel_rfl)) (fun _ _ _ h => h) (Or.inl ⟨by rfl, ?_⟩) ?_ ?_
            rotate_left
            · intro w'
              go_simp
              with_reducible rfl
            rotate_left
            · simp only [Act.put, List.setIfInBounds_toArray, List.set_cons_zero, List.set_cons_succ, i64_w, i32_w]
              rfl
            refine pure_ (i := 8) (N := some 19) (v := ?_) (a' := ?_) #[true, true, true, true, true, false, true, true, true, false, false, false, false, false, false, false, false, false, false, false, false, false, false, false, false] rfl rfl (any_of HT_.out (by kernel_rfl)) (fun _ _ _ h => h) (Or.inl ⟨by rfl, ?_⟩) ?_ ?_
            rotate_left
            · intro w'
              go_simp
              with_reducible rfl
            rotate_left
            · simp only [Act.put, List.setIfInBounds_toArray, List.set_cons_zero, List.set_cons_succ, i64_w, i32_w]
              rfl
            refine pure_ (i := 9) (N := some 20) (v := ?_) (a' := ?_) #[true, true, true, true, true, false, true, true, true, true, false, false, false, false, false, false, false, false, false, false, false, false, false, false, false] rfl rfl (any_of HT_.out (by kernel_rfl)) (fun _ _ _ h => h) (Or.inl ⟨by rfl, ?_⟩) ?_ ?_
            rotate_left
            · intro w'
              go_simp
              with_reducible rfl
            rotate_left
            · simp only [Act.put, List.setIfInBounds_toArray, List.set_cons_zero, List.set_cons_succ, i64_w, i32_w]
              rfl
            refine pure_ (i := 11) (N := some 22) (v := ?_) (a' := ?_) #[true, true, true, true, true, false, true, true, true, true, false, true, false, false, false, false, false, false, false, false, false, false, false, false, false] rfl rfl (any_of HT_.out (by kernel_rfl)) (fun _ _ _ h => h) (Or.inl ⟨by rfl, ?_⟩) ?_ ?_
            rotate_left
            · intro w'
              go_simp
              with_reducible rfl
            rotate_left
            · simp only [Act.put, List.setIfInBounds_toArray, List.set_cons_zero, List.set_cons_succ, i64_w, i32_w]
              rfl
            refine pure_ (i := 12) (N := some 23) (v := ?_) (a' := ?_) #[true, true, true, true, true, false, true, true, true, true, false, true, true, false, false, false, false, false, false, false, false, false, false, false, false] rfl rfl (any_of HT_.out (by kernel_rfl)) (fun _ _ _ h => h) (Or.inl ⟨by rfl, ?_⟩) ?_ ?_
            rotate_left
            · intro w'
              go_simp
              with_reducible rfl
            rotate_left
            · simp only [Act.put, List.setIfInBounds_toArray, List.set_cons_zero, List.set_cons_succ, i64_w, i32_w]
              rfl
            refine pure_ (i := 13) (N := some 24) (v := ?_) (a' := ?_) #[true, true, true, true, true, false, true, true, true, true, false, true, true, true, false, false, false, false, false, false, false, false, false, false, false] rfl rfl (any_of HT_.out (by kernel_rfl)) (fun _ _ _ h => h) (Or.inl ⟨by rfl, ?_⟩) ?_ ?_
            rotate_left
            · intro w'
              go_simp
              with_reducible rfl
            rotate_left
            · simp only [Act.put, List.setIfInBounds_toArray, List.set_cons_zero, List.set_cons_succ, i64_w, i32_w]
              rfl
            refine pure_ (i := 14) (N := some 25) (v := ?_) (a' := ?_) #[true, true, true, true, true, false, true, true, true, true, false, true, true, true, true, false, false, false, false, false, false, false, false, false, false] rfl rfl (any_of HT_.out (by kernel_rfl)) (fun _ _ _ h => h) (Or.inl ⟨by rfl, ?_⟩) ?_ ?_
            rotate_left
            · intro w'
              go_simp
              with_reducible rfl
            rotate_left
            · simp only [Act.put, List.setIfInBounds_toArray, List.set_cons_zero, List.set_cons_succ, i64_w, i32_w]
              rfl
            refine pure_ (i := 16) (N := some 27) (v := ?_) (a' := ?_) #[true, true, true, true, true, false, true, true, true, true, false, true, true, true, true, false, true, false, false, false, false, false, false, false, false] rfl rfl (any_of HT_.out (by kernel_rfl)) (fun _ _ _ h => h) (Or.inl ⟨by rfl, ?_⟩) ?_ ?_
            rotate_left
            · intro w'
              go_simp
              with_reducible rfl
            rotate_left
            · simp only [Act.put, List.setIfInBounds_toArray, List.set_cons_zero, List.set_cons_succ, i64_w, i32_w]
              rfl
            refine pure_ (i := 17) (N := some 28) (v := ?_) (a' := ?_) #[true, true, true, true, true, false, true, true, true, true, false, true, true, true, true, false, true, true, false, false, false, false, false, false, false] rfl rfl (any_of HT_.out (by kernel_rfl)) (fun _ _ _ h => h) (Or.inl ⟨by rfl, ?_⟩) ?_ ?_
            rotate_left
            · intro w'
              go_simp
              with_reducible rfl
            rotate_left
            · simp only [Act.put, List.setIfInBounds_toArray, List.set_cons_zero, List.set_cons_succ, i64_w, i32_w]
              rfl
            refine pure_ (i := 18) (N := some 29) (v := ?_) (a' := ?_) #[true, true, true, true, true, false, true, true, true, true, false, true, true, true, true, false, true, true, true, false, false, false, false, false, false] rfl rfl (any_of HT_.out (by kernel_rfl)) (fun _ _ _ h => h) (Or.inl ⟨by rfl, ?_⟩) ?_ ?_
            rotate_left
            · intro w'
              go_simp
              with_reducible rfl
            rotate_left
            · simp only [Act.put, List.setIfInBounds_toArray, List.set_cons_zero, List.set_cons_succ, i64_w, i32_w]
              rfl
            refine pure_ (i := 19) (N := some 30) (v := ?_) (a' := ?_) #[true, true, true, true, true, false, true, true, true, true, false, true, true, true, true, false, true, true, true, true, false, false, false, false, false] rfl rfl (any_of HT_.out (by kernel_rfl)) (fun _ _ _ h => h) (Or.inl ⟨by rfl, ?_⟩) ?_ ?_
            rotate_left
            · intro w'
              go_simp
              with_reducible rfl
            rotate_left
            · simp only [Act.put, List.setIfInBounds_toArray, List.set_cons_zero, List.set_cons_succ, i64_w, i32_w]
              rfl
            refine take_ (i := 5) (N := some 16) (v := ?_) (a' := ?_) #[true, true, true, true, true, true, true, true, true, true, false, true, true, true, true, false, true, true, true, true, false, false, false, false, false] rfl rfl (take_ofW HT_.out HW_.out (by kernel_rfl)) (fun _ _ _ h => h) (Or.inl ⟨by rfl, ?_⟩) hHeld ?_ ?_
            rotate_left
            · rintro w' ⟨s0, s1, s2, s3, s4, s5, s6, s7, s8, s9, s10, s11, s12, s13, s14, s15⟩
              go_simp
              with_reducible rfl
            rotate_left
            · simp only [Act.put, List.setIfInBounds_toArray, List.set_cons_zero, List.set_cons_succ, i64_w, i32_w]
              rfl
            refine take_ (i := 10) (N := some 21) (v := ?_) (a' := ?_) #[true, true, true, true, true, true, true, true, true, true, true, true, true, true, true, false, true, true, true, true, false, false, false, false, false] rfl rfl (take_ofW HT_.out HW_.out (by kernel_rfl)) (fun _ _ _ h => h) (Or.inl ⟨by rfl, ?_⟩) hHeld ?_ ?_
            rotate_left
            · rintro w' ⟨s0, s1, s2, s3, s4, s5, s6, s7, s8, s9, s10, s11, s12, s13, s14, s15⟩
              go_simp
              with_reducible rfl
            rotate_left
            · simp only [Act.put, List.setIfInBounds_toArray, List.set_cons_zero, List.set_cons_succ, i64_w, i32_w]
              rfl
            refine take_ (i := 15) (N := some 26) (v := ?_) (a' := ?_) #[true, true, true, true, true, true, true, true, true, true, true, true, true, true, true, true, true, true, true, true, false, false, false, false, false] rfl rfl (take_ofW HT_.out HW_.out (by kernel_rfl)) (fun _ _ _ h => h) (Or.inl ⟨by rfl, ?_⟩) hHeld ?_ ?_
            rotate_left
            · rintro w' ⟨s0, s1, s2, s3, s4, s5, s6, s7, s8, s9, s10, s11, s12, s13, s14, s15⟩
              go_simp
              with_reducible rfl
            rotate_left
            · simp only [Act.put, List.setIfInBounds_toArray, List.set_cons_zero, List.set_cons_succ, i64_w, i32_w]
              rfl
            refine take_ (i := 20) (N := some 31) (v := ?_) (a' := ?_) #[true, true, true, true, true, true, true, true, true, true, true, true, true, true, true, true, true, true, true, true, true, false, false, false, false] rfl rfl (take_ofW HT_.out HW_.out (by kernel_rfl)) (fun _ _ _ h => h) (Or.inl ⟨by rfl, ?_⟩) hHeld ?_ ?_
            rotate_left
            · rintro w' ⟨s0, s1, s2, s3, s4, s5, s6, s7, s8, s9, s10, s11, s12, s13, s14, s15⟩
              go_simp
              with_reducible rfl
            rotate_left
            · simp only [Act.put, List.setIfInBounds_toArray, List.set_cons_zero, List.set_cons_succ, i64_w, i32_w]
              rfl
            refine pure_ (i := 21) (N := some 32) (v := ?_) (a' := ?_) #[true, true, true, true, true, true, true, true, true, true, true, true, true, true, true, true, true, true, true, true, true, true, false, false, false] rfl rfl (any_of HT_.out (by kernel_rfl)) (fun _ _ _ h => h) (Or.inl ⟨by rfl, ?_⟩) ?_ ?_
            rotate_left
            · intro w'
              go_simp
              with_reducible rfl
            rotate_left
            · simp only [Act.put, List.setIfInBounds_toArray, List.set_cons_zero, List.set_cons_succ, i64_w, i32_w]
              rfl
            refine one_ (i := 22) (N := some 33) #[true, true, true, true, true, true, true, true, true, true, true, true, true, true, true, true, true, true, true, true, true, true, true, false, false] rfl rfl (one_of HT_.out (by kernel_rfl)) (by decide) (fun K hK => ?_)
            refine value_ (w1 := ?_) (v := ?_) (by rfl) rfl ?_ ?_
            rotate_left 2
            · go_simp
              constructor
              · rfl
              · rfl
            refine hK.out _ _ ⟨(World.cell?_alloc_lt _ _ _ (World.block_lt_of_cell? _ _ (((HB.out.cell (World.block_lt_of_cell? w _ hw400_0)).trans hw400_0)))).trans (((HB.out.cell (World.block_lt_of_cell? w _ hw400_0)).trans hw400_0)), (World.cell?_alloc_lt _ _ _ (World.block_lt_of_cell? _ _ (((HB.out.cell (World.block_lt_of_cell? w _ hw400_1)).trans hw400_1)))).trans (((HB.out.cell (World.block_lt_of_cell? w _ hw400_1)).trans hw400_1)), (World.cell?_alloc_lt _ _ _ (World.block_lt_of_cell? _ _ (((HB.out.cell (World.block_lt_of_cell? w _ hw400_2)).trans hw400_2)))).trans (((HB.out.cell (World.block_lt_of_cell? w _ hw400_2)).trans hw400_2)), (World.cell?_alloc_lt _ _ _ (World.block_lt_of_cell? _ _ (((HB.out.cell (World.block_lt_of_cell? w _ hw400_3)).trans hw400_3)))).trans (((HB.out.cell (World.block_lt_of_cell? w _ hw400_3)).trans hw400_3)), (World.cell?_alloc_lt _ _ _ (World.block_lt_of_cell? _ _ (((HB.out.cell (World.block_lt_of_cell? w _ hw401_0)).trans hw401_0)))).trans (((HB.out.cell (World.block_lt_of_cell? w _ hw401_0)).trans hw401_0)), (World.cell?_alloc_lt _ _ _ (World.block_lt_of_cell? _ _ (((HB.out.cell (World.block_lt_of_cell? w _ hw401_1)).trans hw401_1)))).trans (((HB.out.cell (World.block_lt_of_cell? w _ hw401_1)).trans hw401_1)), (World.cell?_alloc_lt _ _ _ (World.block_lt_of_cell? _ _ (((HB.out.cell (World.block_lt_of_cell? w _ hw401_2)).trans hw401_2)))).trans (((HB.out.cell (World.block_lt_of_cell? w _ hw401_2)).trans hw401_2)), (World.cell?_alloc_lt _ _ _ (World.block_lt_of_cell? _ _ (((HB.out.cell (World.block_lt_of_cell? w _ hw401_3)).trans hw401_3)))).trans (((HB.out.cell (World.block_lt_of_cell? w _ hw401_3)).trans hw401_3)), (World.cell?_alloc_lt _ _ _ (World.block_lt_of_cell? _ _ (((HB.out.cell (World.block_lt_of_cell? w _ hw402_0)).trans hw402_0)))).trans (((HB.out.cell (World.block_lt_of_cell? w _ hw402_0)).trans hw402_0)), (World.cell?_alloc_lt _ _ _ (World.block_lt_of_cell? _ _ (((HB.out.cell (World.block_lt_of_cell? w _ hw402_1)).trans hw402_1)))).trans (((HB.out.cell (World.block_lt_of_cell? w _ hw402_1)).trans hw402_1)), (World.cell?_alloc_lt _ _ _ (World.block_lt_of_cell? _ _ (((HB.out.cell (World.block_lt_of_cell? w _ hw402_2)).trans hw402_2)))).trans (((HB.out.cell (World.block_lt_of_cell? w _ hw402_2)).trans hw402_2)), (World.cell?_alloc_lt _ _ _ (World.block_lt_of_cell? _ _ (((HB.out.cell (World.block_lt_of_cell? w _ hw402_3)).trans hw402_3)))).trans (((HB.out.cell (World.block_lt_of_cell? w _ hw402_3)).trans hw402_3)), (World.cell?_alloc_lt _ _ _ (World.block_lt_of_cell? _ _ (((HB.out.cell (World.block_lt_of_cell? w _ hw403_0)).trans hw403_0)))).trans (((HB.out.cell (World.block_lt_of_cell? w _ hw403_0)).trans hw403_0)), (World.cell?_alloc_lt _ _ _ (World.block_lt_of_cell? _ _ (((HB.out.cell (World.block_lt_of_cell? w _ hw403_1)).trans hw403_1)))).trans (((HB.out.cell (World.block_lt_of_cell? w _ hw403_1)).trans hw403_1)), (World.cell?_alloc_lt _ _ _ (World.block_lt_of_cell? _ _ (((HB.out.cell (World.block_lt_of_cell? w _ hw403_2)).trans hw403_2)))).trans (((HB.out.cell (World.block_lt_of_cell? w _ hw403_2)).trans hw403_2)), (World.cell?_alloc_lt _ _ _ (World.block_lt_of_cell? _ _ (((HB.out.cell (World.block_lt_of_cell? w _ hw403_3)).trans hw403_3)))).trans (((HB.out.cell (World.block_lt_of_cell? w _ hw403_3)).trans hw403_3))⟩ (fun hHeld => ?_)
            clear hK K
            refine norm_ (a' := ?_) ?_ ?_
            rotate_left
            · show Act.put _ (some 33) _ = _
              simp only [Act.put, List.setIfInBounds_toArray, List.set_cons_zero, List.set_cons_succ, i64_w, i32_w]
              rfl
            refine one_ (i := 23) (N := some 34) #[true, true, true, true, true, true, true, true, true, true, true, true, true, true, true, true, true, true, true, true, true, true, true, true, false] rfl rfl (one_of HT_.out (by kernel_rfl)) (by decide) (fun K hK => ?_)
            refine Kd.R_append_step k42 (w0 := w) w.heap.size (by rfl) (.tmp 11) (.tmp 33) 25 42 (.agg #[(.int .i64 0), (.int .i64 0), (.int .u8 0), (.int .u8 0)]) 24 rfl Try.underlying25 info42 rfl (by decide) (by omega) u3 x3_1 (⟨(rd_T43 l0 x4_1).f0, (rd_T43 l0 x4_1).f1, (rd_T43 l0 x4_1).f2, (rd_T43 l0 x4_1).f3⟩ : S42) [.int .i64 ((rd_T43 l0 x4_1).f0), .int .i64 ((rd_T43 l0 x4_1).f1), .int .u8 ((rd_T43 l0 x4_1).f2), .int .u8 ((rd_T43 l0 x4_1).f3)] (fun _ => True) (fun _ => False) rfl rfl ?aP (fun _ hk => hk.elim) ?aF ?aO ?aB ?aS ?aL ?_
            (case aP => exact k42_mkM _ _ _ (⟨(rd_T43 l0 x4_1).f0, (rd_T43 l0 x4_1).f1, (rd_T43 l0 x4_1).f2, (rd_T43 l0 x4_1).f3⟩ : S42))
            (case aB => exact (by repeat (first | (with_reducible first | exact HB.out | apply below_alloc | apply pw_below_drewN | apply below_drew1) | exact HB.out)))
            (case aF => exact (fun _ _ => trivial))
            (case aO => exact (by (with_reducible repeat (first | apply Kd.R_alloc | apply Kd.R_drewN | apply Kd.R_drew)); exact HO_3.out))
            (case aS => exact (below_size (by repeat (first | (with_reducible first | exact HB.out | apply below_alloc | apply pw_below_drewN | apply below_drew1) | exact HB.out))))
            (case aL => have := LMc4.out; omega)
            intro v405 w6 ho hb hg hat
            rw [← Ny404.out] at ho
            have n0_ := Aside0.mk (hb)
            have n1_ := Aside0.mk (ho)
            clear HB
            clear HO_3
            have HB := n0_
            have HO406 := n1_
            clear n0_ n1_
            clear ho hb hg hat
            refine hK.out _ _ ⟨((HB.out.cell (World.block_lt_of_cell? w _ hw400_0)).trans hw400_0), ((HB.out.cell (World.block_lt_of_cell? w _ hw400_1)).trans hw400_1), ((HB.out.cell (World.block_lt_of_cell? w _ hw400_2)).trans hw400_2), ((HB.out.cell (World.block_lt_of_cell? w _ hw400_3)).trans hw400_3), ((HB.out.cell (World.block_lt_of_cell? w _ hw401_0)).trans hw401_0), ((HB.out.cell (World.block_lt_of_cell? w _ hw401_1)).trans hw401_1), ((HB.out.cell (World.block_lt_of_cell? w _ hw401_2)).trans hw401_2), ((HB.out.cell (World.block_lt_of_cell? w _ hw401_3)).trans hw401_3), ((HB.out.cell (World.block_lt_of_cell? w _ hw402_0)).trans hw402_0), ((HB.out.cell (World.block_lt_of_cell? w _ hw402_1)).trans hw402_1), ((HB.out.cell (World.block_lt_of_cell? w _ hw402_2)).trans hw402_2), ((HB.out.cell (World.block_lt_of_cell? w _ hw402_3)).trans hw402_3), ((HB.out.cell (World.block_lt_of_cell? w _ hw403_0)).trans hw403_0), ((HB.out.cell (World.block_lt_of_cell? w _ hw403_1)).trans hw403_1), ((HB.out.cell (World.block_lt_of_cell? w _ hw403_2)).trans hw403_2), ((HB.out.cell (World.block_lt_of_cell? w _ hw403_3)).trans hw403_3)⟩ (fun hHeld => ?_)
            clear hK K
            refine norm_ (a' := ?_) ?_ ?_
            rotate_left
            · show Act.put _ (some 34) _ = _
              simp only [Act.put, List.setIfInBounds_toArray, List.set_cons_zero, List.set_cons_succ, i64_w, i32_w]
              rfl
            refine pure_ (i := 24) (N := some 3) (v := ?_) (a' := ?_) #[true, true, true, true, true, true, true, true, true, true, true, true, true, true, true, true, true, true, true, true, true, true, true, true, true] rfl rfl (any_of HT_.out (by kernel_rfl)) (fun _ _ _ h => h) (Or.inl ⟨by rfl, ?_⟩) ?_ ?_
            rotate_left
            · intro w'
              go_simp
              with_reducible rfl
            rotate_left
            · simp only [Act.put, List.setIfInBounds_toArray, List.set_cons_zero, List.set_cons_succ, i64_w, i32_w]
              rfl
            refine done_ (done_of HT_.out (by kernel_rfl)) ?_
            try go_wp2
            go_roundg k1
            case measure => have := HK1.out; omega
            case rel => exact ⟨(y404), (wrap64 (x4_1 + 1)), (by first | rfl | (simp; done) | (simp [*]; done) | (simp [isEmpty_ne]; done)), H', ⟨by have := HK1.out; omega⟩, ⟨by (with_reducible repeat (first | apply Kd.R_alloc | apply Kd.R_drewN | apply Kd.R_drew)); exact HO406.out⟩, ⟨by repeat (first | (with_reducible first | exact HB.out | apply below_alloc | apply pw_below_drewN | apply below_drew1) | exact HB.out)⟩⟩
          · rw [if_neg c4] at H
            exact absurd H (by simp)
        · rw [if_neg c3] at H
          exact absurd H (by simp)
      · rw [if_neg c2] at H
        have c2b0 : decide (x4_1 < (l0.length : Int)) = false := decide_eq_false c2
        clear c2
        by_cases c7 : x3_1.length < 5864062014805
        · rw [if_pos c7] at H
          have LMc7 := Aside0.mk c7
          clear c7
          obtain ⟨y407, hy407⟩ : ∃ y_ : List (S42), y_ = (x3_1 ++ [(⟨777, 0, 0, 0⟩ : S42)]) := ⟨_, rfl⟩
          replace H : (if 0 ≤ (l0.length : Int) then (if (l0.length : Int) ≤ (y407.length : Int) then (some (y407.take ((l0.length : Int) : Int).toNat)) else (none)) else (none)) = some r := by first | (rw [hy407]; with_reducible exact H) | (have H2_ := (Option.bind_some _ _).symm.trans H; rw [hy407]; with_reducible exact H2_) | (have H2_ := (Option.bind_some _ _).symm.trans H; with_reducible exact H2_) | with_reducible exact H | (rw [hy407]; exact H) | exact H
          have Ny407 := Aside0.mk hy407
          clear hy407
          by_cases c8 : 0 ≤ (l0.length : Int)
          · rw [if_pos c8] at H
            have c8b0 := eq_true c8
            have c8b1 : decide (0 ≤ (l0.length : Int)) = true := decide_eq_true c8
            clear c8
            by_cases c9 : (l0.length : Int) ≤ (y407.length : Int)
            · rw [if_pos c9] at H
              have c9b0 := eq_true c9
              have c9b1 : decide ((l0.length : Int) ≤ (y407.length : Int)) = true := decide_eq_true c9
              clear c9
              obtain ⟨y410, hy410⟩ : ∃ y_ : List (S42), y_ = (y407.take ((l0.length : Int) : Int).toNat) := ⟨_, rfl⟩
              replace H : (some y410) = some r := by first | (rw [hy410]; with_reducible exact H) | (have H2_ := (Option.bind_some _ _).symm.trans H; rw [hy410]; with_reducible exact H2_) | (have H2_ := (Option.bind_some _ _).symm.trans H; with_reducible exact H2_) | with_reducible exact H | (rw [hy410]; exact H) | exact H
              have Ny410 := Aside0.mk hy410
              clear hy410
              obtain rfl := Option.some.inj H
              go_wp2_with (first | ((with_reducible refine gate_builtin (b := .append) (xs := #[.tmp 35, .tmp 37]) rfl ?_); at_builtin; refine Kd.R_append k42 (w0 := w) w.heap.size rfl (.tmp 35) (.tmp 37) 25 42 (.agg #[(.int .i64 0), (.int .i64 0), (.int .u8 0), (.int .u8 0)]) 24 rfl Try.underlying25 info42 rfl (by decide) (by omega) u3 x3_1 (⟨777, 0, 0, 0⟩ : S42) [.int .i64 777, .int .i64 0, .int .u8 0, .int .u8 0] (fun _ => True) (fun _ => False) rfl rfl ?aP (fun _ hk => hk.elim) ?aF ?aO ?aB ?aS ?aL ?_; (case aP => exact k42_mkM _ _ _ (⟨777, 0, 0, 0⟩ : S42)); (case aB => exact (by repeat (first | (with_reducible first | exact HB.out | apply below_alloc | apply pw_below_drewN | apply below_drew1) | exact HB.out))); (case aF => exact (fun _ _ => trivial)); (case aO => exact (by (with_reducible repeat (first | apply Kd.R_alloc | apply Kd.R_drewN | apply Kd.R_drew)); exact HO_3.out)); (case aS => exact (below_size (by repeat (first | (with_reducible first | exact HB.out | apply below_alloc | apply pw_below_drewN | apply below_drew1) | exact HB.out)))); (case aL => have := LMc7.out; omega); intro v408 w10 ho hb hg hat; rw [← Ny407.out] at ho; have n0_ := Aside0.mk (hb); have n1_ := Aside0.mk (ho); clear HB; clear HO_3; have HB := n0_; have HO409 := n1_; clear n0_ n1_; clear ho hb hg hat; obtain ⟨Ao11, co11, eo11⟩ := Kd.R_slice HO409.out; subst eo11; have q12 : ((l0.length : Int) : Int) ≤ ((y407.length : Int) : Int) := of_decide_eq_true (by first | (with_reducible assumption) | assumption); obtain ⟨i012, hi012, _, hsz12, _⟩ := info_parts info42; have hcut12 := cut_to (P := Try.prog) 25 42 .i64 Try.underlying25 hi012 Ao11 y407.length co11 (l0.length : Int) (of_decide_eq_true (by first | (with_reducible assumption) | assumption)) q12 (Kd.R_reads' HO409.out).2.1; have hr12 := Kd.R_take (m := ((l0.length : Int) : Int).toNat) HO409.out (by omega); have hy12 : y410.length = ((l0.length : Int) : Int).toNat := (by rw [Ny410.out, List.length_take]; omega); rw [← Ny410.out] at hr12; rw [← hy12] at hr12 hcut12; clear hy12 hi012 hsz12 HO409; have HO412 := Aside0.mk hr12; clear hr12; replace q12 := eq_true q12))
              go_ret
              exact ⟨_, by first | rfl | (simp [errW_none, errW_some] <;> rfl) | (simp [*, errW_none, errW_some] <;> rfl), by (with_reducible repeat (first | apply Kd.R_alloc | apply Kd.R_drewN | apply Kd.R_drew)); exact HO412.out, by repeat (first | (with_reducible first | exact HB.out | apply below_alloc | apply pw_below_drewN | apply below_drew1) | exact HB.out)⟩
            · rw [if_neg c9] at H
              exact absurd H (by simp)
          · rw [if_neg c8] at H
            exact absurd H (by simp)
        · rw [if_neg c7] at H
          exact absurd H (by simp)

end Go.Proofs.Ytpjdgndbcjinjaa.P
