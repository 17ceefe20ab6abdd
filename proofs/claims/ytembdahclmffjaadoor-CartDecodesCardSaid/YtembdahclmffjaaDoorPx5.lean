/- Printed by a program of this session (it turns the kit's print): see wip/myprint. -/
import Derived.Test.YtembdahclmffjaaDoorPx0
namespace Go.Proofs.YtembdahclmffjaaDoor.P
open Go.RowKit Go.Proofs.YtembdahclmffjaaDoorW.PrintWords Go.Proofs.YtembdahclmffjaaDoorW.PrintLast Go.Proofs.YtembdahclmffjaaDoorW.PrintMore Go.Proofs.YtembdahclmffjaaDoor.Mine
attribute [local go_sem] max2_int min2_int max_two min_two max_three min_three max_four min_four   -- for this text's walks alone
set_option linter.unusedVariables false
set_option linter.unusedSimpArgs false

/-! ### wispref07_right: function 36 -/
def wispref07_right.l0 : Nat → List (S77) → Int → Option (Bool)
  | 0, _, _ => none
  | k + 1, x0, x3 => if x3 < (x0.length : Int) then (if x3 < 2 then (if 0 ≤ x3 then (if ((rd_T77 x0 x3).f0) = ((wrap64 (x3 + 1)) % 256) then (if ((rd_T77 x0 x3).f1) = 0 then (if ((rd_T77 x0 x3).f1) > 15 then (some false) else (if x3 > 2 then (if 0 ≤ (wrap64 (x3 - 1)) then (if (wrap64 (x3 - 1)) < (x0.length : Int) then (if ((rd_T77 x0 (wrap64 (x3 - 1))).f1) ≥ ((rd_T77 x0 x3).f1) then (some false) else (wispref07_right.l0 k x0 (wrap64 (x3 + 1)))) else (none)) else (none)) else (wispref07_right.l0 k x0 (wrap64 (x3 + 1))))) else (some false)) else (some false)) else (none)) else (if 0 ≤ x3 then (if ((rd_T77 x0 x3).f0) = 3 then (if ((rd_T77 x0 x3).f1) > 15 then (some false) else (if x3 > 2 then (if 0 ≤ (wrap64 (x3 - 1)) then (if (wrap64 (x3 - 1)) < (x0.length : Int) then (if ((rd_T77 x0 (wrap64 (x3 - 1))).f1) ≥ ((rd_T77 x0 x3).f1) then (some false) else (wispref07_right.l0 k x0 (wrap64 (x3 + 1)))) else (none)) else (none)) else (wispref07_right.l0 k x0 (wrap64 (x3 + 1))))) else (some false)) else (none))) else (some (decide ((x0.length : Int) ≥ 2)))
def wispref07_right.f (k : Nat) (l0 : List (S77)) : Option (Bool) := wispref07_right.l0 k l0 0
theorem wispref07_right.mono_l : ∀ k, (∀ y0 y1, LeO (wispref07_right.l0 k y0 y1) (wispref07_right.l0 (k + 1) y0 y1))
  | 0 => fun _ _ r h => by simp [wispref07_right.l0] at h
  | k + 1 => by
    have ih0 := wispref07_right.mono_l k
    · intro y0 y1
      unfold wispref07_right.l0
      repeat' first
      | (with_reducible exact ih0 _ _)
      | (with_reducible exact LeO.refl _)
      | (with_reducible exact LeO.none _)
      | (with_reducible refine LeO.ite ?_ ?_)
      | (with_reducible refine LeO.bind ?_ (fun _ => ?_))
      | exact ih0 _ _
      | exact LeO.none _
      | refine LeO.ite ?_ ?_
      | refine LeO.bind ?_ (fun _ => ?_)
theorem wispref07_right.mono : ∀ a0 k, LeO (wispref07_right.f k a0) (wispref07_right.f (k + 1) a0) := by
  intro a0 k
  have ih0 := wispref07_right.mono_l k
  unfold wispref07_right.f
  repeat' first
      | (with_reducible exact ih0 _ _)
      | (with_reducible exact LeO.refl _)
      | (with_reducible exact LeO.none _)
      | (with_reducible refine LeO.ite ?_ ?_)
      | (with_reducible refine LeO.bind ?_ (fun _ => ?_))
      | exact ih0 _ _
      | exact LeO.none _
      | refine LeO.ite ?_ ?_
      | refine LeO.bind ?_ (fun _ => ?_)
set_option maxHeartbeats 8000000 in
set_option maxRecDepth 100000 in
theorem wispref07_right.calls (k : Nat) (A0 : Option Addr) (c0 : Nat) (l0 : List (S77)) (r : Bool) (w : World) (hr0 : Kd.C k77 w A0 l0.length l0) (hc0 : l0.length ≤ c0) (h : wispref07_right.f k l0 = some r) :
    Calls Tryd.prog 36 #[.slice A0 l0.length c0] w fun e w' => e = .returned (.bool r) ∧ Drawn0 w w' := by
  have HR0 := Aside0.mk hr0
  have HC0 := Aside0.mk hc0
  clear hr0 hc0
  have H : (wispref07_right.l0 k l0 0) = some r := h
  clear h
  have H' := Aside0.mk H
  clear H
  go_enter Tryd.func36, Tryd.ntmps36
  go_wp2
  repeat (go_quiet (fail); try go_wp2)
  go_loopg [3] k (fun kq v3 w' => ∃ (x3_1 : Int), v3 = .int .i64 x3_1 ∧ Aside0 (wispref07_right.l0 kq l0 x3_1 = some r) ∧ Aside0 (kq ≤ k) ∧ Drawn0 w w')
  case atStart => exact ⟨(0), (by first | rfl | (simp; done) | (simp [*]; done) | (simp [isEmpty_ne]; done)), H', ⟨Nat.le_refl _⟩, by repeat (first | exact Drawn0.refl _ | apply Drawn0.step)⟩
  case round =>
    clear H'
    obtain ⟨x3_1, rfl, HA, HK1, ⟨m1, rfl⟩⟩ := hrel
    cases gk with
    | zero => exact absurd HA.out (by simp [wispref07_right.l0])
    | succ k1 =>
      have H := HA.out
      clear HA
      simp only [wispref07_right.l0] at H
      by_cases c2 : x3_1 < (l0.length : Int)
      · rw [if_pos c2] at H
        have c2b0 : decide (x3_1 < (l0.length : Int)) = true := decide_eq_true c2
        clear c2
        by_cases c3 : x3_1 < 2
        · rw [if_pos c3] at H
          have c3b0 : decide (x3_1 < 2) = true := decide_eq_true c3
          clear c3
          by_cases c4 : 0 ≤ x3_1
          · rw [if_pos c4] at H
            have c4b0 : decide (0 ≤ x3_1) = true := decide_eq_true c4
            clear c4
            by_cases c5 : ((rd_T77 l0 x3_1).f0) = ((wrap64 (x3_1 + 1)) % 256)
            · rw [if_pos c5] at H
              have c5b0 : (((rd_T77 l0 x3_1).f0) == ((wrap64 (x3_1 + 1)) % 256)) = true := beq_iff_eq.mpr c5
              have c5b1 : (((rd_T77 l0 x3_1).f0) != ((wrap64 (x3_1 + 1)) % 256)) = false := bne_eq_false_iff_eq.mpr c5
              clear c5
              by_cases c6 : ((rd_T77 l0 x3_1).f1) = 0
              · rw [if_pos c6] at H
                have c6b0 : (((rd_T77 l0 x3_1).f1) == 0) = true := beq_iff_eq.mpr c6
                have c6b1 : (((rd_T77 l0 x3_1).f1) != 0) = false := bne_eq_false_iff_eq.mpr c6
                clear c6
                by_cases c7 : ((rd_T77 l0 x3_1).f1) > 15
                · rw [if_pos c7] at H
                  have c7b0 : decide (15 < ((rd_T77 l0 x3_1).f1)) = true := decide_eq_true c7
                  clear c7
                  obtain rfl := Option.some.inj H
                  have p169 : 0 ≤ (x3_1 : Int) := of_decide_eq_true (by first | (with_reducible assumption) | assumption)
                  have q169 : x3_1 < (l0.length : Int) := of_decide_eq_true (by first | (with_reducible assumption) | assumption)
                  obtain ⟨ad169, A169_2, c169_2, e169, hx169_0, hx169_1, hx169_2, hl169_2, hi169_2⟩ := at_T77 HR0.out x3_1 p169 q169
                  cases e169
                  have HR169_2 := Aside0.mk hi169_2
                  have HC169_2 := Aside0.mk hl169_2
                  clear hi169_2 hl169_2
                  replace p169 := eq_true p169
                  replace q169 := eq_true q169
                  have p170 : 0 ≤ (x3_1 : Int) := of_decide_eq_true (by first | (with_reducible assumption) | assumption)
                  have q170 : x3_1 < (l0.length : Int) := of_decide_eq_true (by first | (with_reducible assumption) | assumption)
                  obtain ⟨ad170, A170_2, c170_2, e170, hx170_0, hx170_1, hx170_2, hl170_2, hi170_2⟩ := at_T77 HR0.out x3_1 p170 q170
                  obtain rfl : ad169 = ad170 := (by injection e170)
                  have HR170_2 := Aside0.mk hi170_2
                  have HC170_2 := Aside0.mk hl170_2
                  clear hi170_2 hl170_2
                  replace p170 := eq_true p170
                  replace q170 := eq_true q170
                  have ea_ := Option.some.inj (hx169_2.symm.trans hx170_2)
                  injection ea_ with ea_ en_ ec_
                  subst ea_
                  subst ec_
                  clear en_
                  have p171 : 0 ≤ (x3_1 : Int) := of_decide_eq_true (by first | (with_reducible assumption) | assumption)
                  have q171 : x3_1 < (l0.length : Int) := of_decide_eq_true (by first | (with_reducible assumption) | assumption)
                  obtain ⟨ad171, A171_2, c171_2, e171, hx171_0, hx171_1, hx171_2, hl171_2, hi171_2⟩ := at_T77 HR0.out x3_1 p171 q171
                  obtain rfl : ad169 = ad171 := (by injection e171)
                  have HR171_2 := Aside0.mk hi171_2
                  have HC171_2 := Aside0.mk hl171_2
                  clear hi171_2 hl171_2
                  replace p171 := eq_true p171
                  replace q171 := eq_true q171
                  have ea_ := Option.some.inj (hx169_2.symm.trans hx171_2)
                  injection ea_ with ea_ en_ ec_
                  subst ea_
                  subst ec_
                  clear en_
                  go_wp2
                  repeat (go_quiet (fail); try go_wp2)
                  go_ret
                  exact ⟨by first | rfl | (simp; done) | (simp [*]; done) | (simp [isEmpty_ne]; done), by repeat (first | exact Drawn0.refl _ | apply Drawn0.step)⟩
                · rw [if_neg c7] at H
                  have c7b0 : decide (15 < ((rd_T77 l0 x3_1).f1)) = false := decide_eq_false c7
                  clear c7
                  by_cases c8 : x3_1 > 2
                  · rw [if_pos c8] at H
                    have c8b0 : decide (2 < x3_1) = true := decide_eq_true c8
                    clear c8
                    obtain ⟨ji9, hji9⟩ : ∃ j_ : Int, (wrap64 (x3_1 - 1)) = j_ := ⟨_, rfl⟩
                    replace H : (if 0 ≤ (ji9) then (if (ji9) < (l0.length : Int) then (if ((rd_T77 l0 (ji9)).f1) ≥ ((rd_T77 l0 x3_1).f1) then (some false) else (wispref07_right.l0 k1 l0 (wrap64 (x3_1 + 1)))) else (none)) else (none)) = some r := by first | (rw [hji9] at H; exact H) | (simp only [hji9] at H ⊢; exact H)
                    have hji9w : (IntKind.i64.wrap (x3_1 - 1)) = ji9 := (i64_w _).trans hji9
                    by_cases c10 : 0 ≤ (ji9)
                    · rw [if_pos c10] at H
                      have c10b0 : decide (0 ≤ (ji9)) = true := decide_eq_true c10
                      clear c10
                      by_cases c11 : (ji9) < (l0.length : Int)
                      · rw [if_pos c11] at H
                        have c11b0 : decide ((ji9) < (l0.length : Int)) = true := decide_eq_true c11
                        clear c11
                        by_cases c12 : ((rd_T77 l0 (ji9)).f1) ≥ ((rd_T77 l0 x3_1).f1)
                        · rw [if_pos c12] at H
                          have c12b0 : decide (((rd_T77 l0 x3_1).f1) ≤ ((rd_T77 l0 (ji9)).f1)) = true := decide_eq_true c12
                          clear c12
                          obtain rfl := Option.some.inj H
                          have p169 : 0 ≤ (x3_1 : Int) := of_decide_eq_true (by first | (with_reducible assumption) | assumption)
                          have q169 : x3_1 < (l0.length : Int) := of_decide_eq_true (by first | (with_reducible assumption) | assumption)
                          obtain ⟨ad169, A169_2, c169_2, e169, hx169_0, hx169_1, hx169_2, hl169_2, hi169_2⟩ := at_T77 HR0.out x3_1 p169 q169
                          cases e169
                          have HR169_2 := Aside0.mk hi169_2
                          have HC169_2 := Aside0.mk hl169_2
                          clear hi169_2 hl169_2
                          replace p169 := eq_true p169
                          replace q169 := eq_true q169
                          have p170 : 0 ≤ (x3_1 : Int) := of_decide_eq_true (by first | (with_reducible assumption) | assumption)
                          have q170 : x3_1 < (l0.length : Int) := of_decide_eq_true (by first | (with_reducible assumption) | assumption)
                          obtain ⟨ad170, A170_2, c170_2, e170, hx170_0, hx170_1, hx170_2, hl170_2, hi170_2⟩ := at_T77 HR0.out x3_1 p170 q170
                          obtain rfl : ad169 = ad170 := (by injection e170)
                          have HR170_2 := Aside0.mk hi170_2
                          have HC170_2 := Aside0.mk hl170_2
                          clear hi170_2 hl170_2
                          replace p170 := eq_true p170
                          replace q170 := eq_true q170
                          have ea_ := Option.some.inj (hx169_2.symm.trans hx170_2)
                          injection ea_ with ea_ en_ ec_
                          subst ea_
                          subst ec_
                          clear en_
                          have p171 : 0 ≤ (x3_1 : Int) := of_decide_eq_true (by first | (with_reducible assumption) | assumption)
                          have q171 : x3_1 < (l0.length : Int) := of_decide_eq_true (by first | (with_reducible assumption) | assumption)
                          obtain ⟨ad171, A171_2, c171_2, e171, hx171_0, hx171_1, hx171_2, hl171_2, hi171_2⟩ := at_T77 HR0.out x3_1 p171 q171
                          obtain rfl : ad169 = ad171 := (by injection e171)
                          have HR171_2 := Aside0.mk hi171_2
                          have HC171_2 := Aside0.mk hl171_2
                          clear hi171_2 hl171_2
                          replace p171 := eq_true p171
                          replace q171 := eq_true q171
                          have ea_ := Option.some.inj (hx169_2.symm.trans hx171_2)
                          injection ea_ with ea_ en_ ec_
                          subst ea_
                          subst ec_
                          clear en_
                          have p172 : 0 ≤ ((ji9) : Int) := of_decide_eq_true (by first | (with_reducible assumption) | assumption)
                          have q172 : (ji9) < (l0.length : Int) := of_decide_eq_true (by first | (with_reducible assumption) | assumption)
                          obtain ⟨ad172, A172_2, c172_2, e172, hx172_0, hx172_1, hx172_2, hl172_2, hi172_2⟩ := at_T77 HR0.out (ji9) p172 q172
                          obtain rfl : ad169 = ad172 := (by injection e172)
                          have HR172_2 := Aside0.mk hi172_2
                          have HC172_2 := Aside0.mk hl172_2
                          clear hi172_2 hl172_2
                          replace p172 := eq_true p172
                          replace q172 := eq_true q172
                          have p173 : 0 ≤ (x3_1 : Int) := of_decide_eq_true (by first | (with_reducible assumption) | assumption)
                          have q173 : x3_1 < (l0.length : Int) := of_decide_eq_true (by first | (with_reducible assumption) | assumption)
                          obtain ⟨ad173, A173_2, c173_2, e173, hx173_0, hx173_1, hx173_2, hl173_2, hi173_2⟩ := at_T77 HR0.out x3_1 p173 q173
                          obtain rfl : ad169 = ad173 := (by injection e173)
                          have HR173_2 := Aside0.mk hi173_2
                          have HC173_2 := Aside0.mk hl173_2
                          clear hi173_2 hl173_2
                          replace p173 := eq_true p173
                          replace q173 := eq_true q173
                          have ea_ := Option.some.inj (hx169_2.symm.trans hx173_2)
                          injection ea_ with ea_ en_ ec_
                          subst ea_
                          subst ec_
                          clear en_
                          go_wp2
                          repeat (go_quiet (fail); try go_wp2)
                          go_ret
                          exact ⟨by first | rfl | (simp; done) | (simp only [← hji9] <;> (first | rfl | simp)) | (simp [*]; done) | (simp [isEmpty_ne]; done), by repeat (first | exact Drawn0.refl _ | apply Drawn0.step)⟩
                        · rw [if_neg c12] at H
                          have c12b0 : decide (((rd_T77 l0 x3_1).f1) ≤ ((rd_T77 l0 (ji9)).f1)) = false := decide_eq_false c12
                          clear c12
                          have H' := Aside0.mk H
                          clear H
                          have p169 : 0 ≤ (x3_1 : Int) := of_decide_eq_true (by first | (with_reducible assumption) | assumption)
                          have q169 : x3_1 < (l0.length : Int) := of_decide_eq_true (by first | (with_reducible assumption) | assumption)
                          obtain ⟨ad169, A169_2, c169_2, e169, hx169_0, hx169_1, hx169_2, hl169_2, hi169_2⟩ := at_T77 HR0.out x3_1 p169 q169
                          cases e169
                          have HR169_2 := Aside0.mk hi169_2
                          have HC169_2 := Aside0.mk hl169_2
                          clear hi169_2 hl169_2
                          replace p169 := eq_true p169
                          replace q169 := eq_true q169
                          have p170 : 0 ≤ (x3_1 : Int) := of_decide_eq_true (by first | (with_reducible assumption) | assumption)
                          have q170 : x3_1 < (l0.length : Int) := of_decide_eq_true (by first | (with_reducible assumption) | assumption)
                          obtain ⟨ad170, A170_2, c170_2, e170, hx170_0, hx170_1, hx170_2, hl170_2, hi170_2⟩ := at_T77 HR0.out x3_1 p170 q170
                          obtain rfl : ad169 = ad170 := (by injection e170)
                          have HR170_2 := Aside0.mk hi170_2
                          have HC170_2 := Aside0.mk hl170_2
                          clear hi170_2 hl170_2
                          replace p170 := eq_true p170
                          replace q170 := eq_true q170
                          have ea_ := Option.some.inj (hx169_2.symm.trans hx170_2)
                          injection ea_ with ea_ en_ ec_
                          subst ea_
                          subst ec_
                          clear en_
                          have p171 : 0 ≤ (x3_1 : Int) := of_decide_eq_true (by first | (with_reducible assumption) | assumption)
                          have q171 : x3_1 < (l0.length : Int) := of_decide_eq_true (by first | (with_reducible assumption) | assumption)
                          obtain ⟨ad171, A171_2, c171_2, e171, hx171_0, hx171_1, hx171_2, hl171_2, hi171_2⟩ := at_T77 HR0.out x3_1 p171 q171
                          obtain rfl : ad169 = ad171 := (by injection e171)
                          have HR171_2 := Aside0.mk hi171_2
                          have HC171_2 := Aside0.mk hl171_2
                          clear hi171_2 hl171_2
                          replace p171 := eq_true p171
                          replace q171 := eq_true q171
                          have ea_ := Option.some.inj (hx169_2.symm.trans hx171_2)
                          injection ea_ with ea_ en_ ec_
                          subst ea_
                          subst ec_
                          clear en_
                          have p172 : 0 ≤ ((ji9) : Int) := of_decide_eq_true (by first | (with_reducible assumption) | assumption)
                          have q172 : (ji9) < (l0.length : Int) := of_decide_eq_true (by first | (with_reducible assumption) | assumption)
                          obtain ⟨ad172, A172_2, c172_2, e172, hx172_0, hx172_1, hx172_2, hl172_2, hi172_2⟩ := at_T77 HR0.out (ji9) p172 q172
                          obtain rfl : ad169 = ad172 := (by injection e172)
                          have HR172_2 := Aside0.mk hi172_2
                          have HC172_2 := Aside0.mk hl172_2
                          clear hi172_2 hl172_2
                          replace p172 := eq_true p172
                          replace q172 := eq_true q172
                          have p173 : 0 ≤ (x3_1 : Int) := of_decide_eq_true (by first | (with_reducible assumption) | assumption)
                          have q173 : x3_1 < (l0.length : Int) := of_decide_eq_true (by first | (with_reducible assumption) | assumption)
                          obtain ⟨ad173, A173_2, c173_2, e173, hx173_0, hx173_1, hx173_2, hl173_2, hi173_2⟩ := at_T77 HR0.out x3_1 p173 q173
                          obtain rfl : ad169 = ad173 := (by injection e173)
                          have HR173_2 := Aside0.mk hi173_2
                          have HC173_2 := Aside0.mk hl173_2
                          clear hi173_2 hl173_2
                          replace p173 := eq_true p173
                          replace q173 := eq_true q173
                          have ea_ := Option.some.inj (hx169_2.symm.trans hx173_2)
                          injection ea_ with ea_ en_ ec_
                          subst ea_
                          subst ec_
                          clear en_
                          go_wp2
                          repeat (go_quiet (fail); try go_wp2)
                          go_roundg k1
                          case measure => have := HK1.out; omega
                          case rel => exact ⟨(wrap64 (x3_1 + 1)), (by first | rfl | (simp; done) | (simp [*]; done) | (simp [isEmpty_ne]; done)), H', ⟨by have := HK1.out; omega⟩, by repeat (first | exact Drawn0.refl _ | apply Drawn0.step)⟩
                      · rw [if_neg c11] at H
                        exact absurd H (by simp)
                    · rw [if_neg c10] at H
                      exact absurd H (by simp)
                  · rw [if_neg c8] at H
                    have c8b0 : decide (2 < x3_1) = false := decide_eq_false c8
                    clear c8
                    have H' := Aside0.mk H
                    clear H
                    have p169 : 0 ≤ (x3_1 : Int) := of_decide_eq_true (by first | (with_reducible assumption) | assumption)
                    have q169 : x3_1 < (l0.length : Int) := of_decide_eq_true (by first | (with_reducible assumption) | assumption)
                    obtain ⟨ad169, A169_2, c169_2, e169, hx169_0, hx169_1, hx169_2, hl169_2, hi169_2⟩ := at_T77 HR0.out x3_1 p169 q169
                    cases e169
                    have HR169_2 := Aside0.mk hi169_2
                    have HC169_2 := Aside0.mk hl169_2
                    clear hi169_2 hl169_2
                    replace p169 := eq_true p169
                    replace q169 := eq_true q169
                    have p170 : 0 ≤ (x3_1 : Int) := of_decide_eq_true (by first | (with_reducible assumption) | assumption)
                    have q170 : x3_1 < (l0.length : Int) := of_decide_eq_true (by first | (with_reducible assumption) | assumption)
                    obtain ⟨ad170, A170_2, c170_2, e170, hx170_0, hx170_1, hx170_2, hl170_2, hi170_2⟩ := at_T77 HR0.out x3_1 p170 q170
                    obtain rfl : ad169 = ad170 := (by injection e170)
                    have HR170_2 := Aside0.mk hi170_2
                    have HC170_2 := Aside0.mk hl170_2
                    clear hi170_2 hl170_2
                    replace p170 := eq_true p170
                    replace q170 := eq_true q170
                    have ea_ := Option.some.inj (hx169_2.symm.trans hx170_2)
                    injection ea_ with ea_ en_ ec_
                    subst ea_
                    subst ec_
                    clear en_
                    have p171 : 0 ≤ (x3_1 : Int) := of_decide_eq_true (by first | (with_reducible assumption) | assumption)
                    have q171 : x3_1 < (l0.length : Int) := of_decide_eq_true (by first | (with_reducible assumption) | assumption)
                    obtain ⟨ad171, A171_2, c171_2, e171, hx171_0, hx171_1, hx171_2, hl171_2, hi171_2⟩ := at_T77 HR0.out x3_1 p171 q171
                    obtain rfl : ad169 = ad171 := (by injection e171)
                    have HR171_2 := Aside0.mk hi171_2
                    have HC171_2 := Aside0.mk hl171_2
                    clear hi171_2 hl171_2
                    replace p171 := eq_true p171
                    replace q171 := eq_true q171
                    have ea_ := Option.some.inj (hx169_2.symm.trans hx171_2)
                    injection ea_ with ea_ en_ ec_
                    subst ea_
                    subst ec_
                    clear en_
                    go_wp2
                    repeat (go_quiet (fail); try go_wp2)
                    go_roundg k1
                    case measure => have := HK1.out; omega
                    case rel => exact ⟨(wrap64 (x3_1 + 1)), (by first | rfl | (simp; done) | (simp [*]; done) | (simp [isEmpty_ne]; done)), H', ⟨by have := HK1.out; omega⟩, by repeat (first | exact Drawn0.refl _ | apply Drawn0.step)⟩
              · rw [if_neg c6] at H
                have c6b0 : (((rd_T77 l0 x3_1).f1) == 0) = false := beq_eq_false_iff_ne.mpr c6
                have c6b1 : (((rd_T77 l0 x3_1).f1) != 0) = true := bne_iff_ne.mpr c6
                obtain rfl := Option.some.inj H
                have p169 : 0 ≤ (x3_1 : Int) := of_decide_eq_true (by first | (with_reducible assumption) | assumption)
                have q169 : x3_1 < (l0.length : Int) := of_decide_eq_true (by first | (with_reducible assumption) | assumption)
                obtain ⟨ad169, A169_2, c169_2, e169, hx169_0, hx169_1, hx169_2, hl169_2, hi169_2⟩ := at_T77 HR0.out x3_1 p169 q169
                cases e169
                have HR169_2 := Aside0.mk hi169_2
                have HC169_2 := Aside0.mk hl169_2
                clear hi169_2 hl169_2
                replace p169 := eq_true p169
                replace q169 := eq_true q169
                have p170 : 0 ≤ (x3_1 : Int) := of_decide_eq_true (by first | (with_reducible assumption) | assumption)
                have q170 : x3_1 < (l0.length : Int) := of_decide_eq_true (by first | (with_reducible assumption) | assumption)
                obtain ⟨ad170, A170_2, c170_2, e170, hx170_0, hx170_1, hx170_2, hl170_2, hi170_2⟩ := at_T77 HR0.out x3_1 p170 q170
                obtain rfl : ad169 = ad170 := (by injection e170)
                have HR170_2 := Aside0.mk hi170_2
                have HC170_2 := Aside0.mk hl170_2
                clear hi170_2 hl170_2
                replace p170 := eq_true p170
                replace q170 := eq_true q170
                have ea_ := Option.some.inj (hx169_2.symm.trans hx170_2)
                injection ea_ with ea_ en_ ec_
                subst ea_
                subst ec_
                clear en_
                go_wp2
                repeat (go_quiet (fail); try go_wp2)
                go_ret
                exact ⟨by first | rfl | (simp; done) | (simp [*]; done) | (simp [isEmpty_ne]; done), by repeat (first | exact Drawn0.refl _ | apply Drawn0.step)⟩
            · rw [if_neg c5] at H
              have c5b0 : (((rd_T77 l0 x3_1).f0) == ((wrap64 (x3_1 + 1)) % 256)) = false := beq_eq_false_iff_ne.mpr c5
              have c5b1 : (((rd_T77 l0 x3_1).f0) != ((wrap64 (x3_1 + 1)) % 256)) = true := bne_iff_ne.mpr c5
              obtain rfl := Option.some.inj H
              have p169 : 0 ≤ (x3_1 : Int) := of_decide_eq_true (by first | (with_reducible assumption) | assumption)
              have q169 : x3_1 < (l0.length : Int) := of_decide_eq_true (by first | (with_reducible assumption) | assumption)
              obtain ⟨ad169, A169_2, c169_2, e169, hx169_0, hx169_1, hx169_2, hl169_2, hi169_2⟩ := at_T77 HR0.out x3_1 p169 q169
              cases e169
              have HR169_2 := Aside0.mk hi169_2
              have HC169_2 := Aside0.mk hl169_2
              clear hi169_2 hl169_2
              replace p169 := eq_true p169
              replace q169 := eq_true q169
              go_wp2
              repeat (go_quiet (fail); try go_wp2)
              go_ret
              exact ⟨by first | rfl | (simp; done) | (simp [*]; done) | (simp [isEmpty_ne]; done), by repeat (first | exact Drawn0.refl _ | apply Drawn0.step)⟩
          · rw [if_neg c4] at H
            exact absurd H (by simp)
        · rw [if_neg c3] at H
          have c3b0 : decide (x3_1 < 2) = false := decide_eq_false c3
          clear c3
          by_cases c13 : 0 ≤ x3_1
          · rw [if_pos c13] at H
            have c13b0 : decide (0 ≤ x3_1) = true := decide_eq_true c13
            clear c13
            by_cases c14 : ((rd_T77 l0 x3_1).f0) = 3
            · rw [if_pos c14] at H
              have c14b0 : (((rd_T77 l0 x3_1).f0) == 3) = true := beq_iff_eq.mpr c14
              have c14b1 : (((rd_T77 l0 x3_1).f0) != 3) = false := bne_eq_false_iff_eq.mpr c14
              clear c14
              by_cases c15 : ((rd_T77 l0 x3_1).f1) > 15
              · rw [if_pos c15] at H
                have c15b0 : decide (15 < ((rd_T77 l0 x3_1).f1)) = true := decide_eq_true c15
                clear c15
                obtain rfl := Option.some.inj H
                have p174 : 0 ≤ (x3_1 : Int) := of_decide_eq_true (by first | (with_reducible assumption) | assumption)
                have q174 : x3_1 < (l0.length : Int) := of_decide_eq_true (by first | (with_reducible assumption) | assumption)
                obtain ⟨ad174, A174_2, c174_2, e174, hx174_0, hx174_1, hx174_2, hl174_2, hi174_2⟩ := at_T77 HR0.out x3_1 p174 q174
                cases e174
                have HR174_2 := Aside0.mk hi174_2
                have HC174_2 := Aside0.mk hl174_2
                clear hi174_2 hl174_2
                replace p174 := eq_true p174
                replace q174 := eq_true q174
                have p175 : 0 ≤ (x3_1 : Int) := of_decide_eq_true (by first | (with_reducible assumption) | assumption)
                have q175 : x3_1 < (l0.length : Int) := of_decide_eq_true (by first | (with_reducible assumption) | assumption)
                obtain ⟨ad175, A175_2, c175_2, e175, hx175_0, hx175_1, hx175_2, hl175_2, hi175_2⟩ := at_T77 HR0.out x3_1 p175 q175
                obtain rfl : ad174 = ad175 := (by injection e175)
                have HR175_2 := Aside0.mk hi175_2
                have HC175_2 := Aside0.mk hl175_2
                clear hi175_2 hl175_2
                replace p175 := eq_true p175
                replace q175 := eq_true q175
                have ea_ := Option.some.inj (hx174_2.symm.trans hx175_2)
                injection ea_ with ea_ en_ ec_
                subst ea_
                subst ec_
                clear en_
                go_wp2
                repeat (go_quiet (fail); try go_wp2)
                go_ret
                exact ⟨by first | rfl | (simp; done) | (simp [*]; done) | (simp [isEmpty_ne]; done), by repeat (first | exact Drawn0.refl _ | apply Drawn0.step)⟩
              · rw [if_neg c15] at H
                have c15b0 : decide (15 < ((rd_T77 l0 x3_1).f1)) = false := decide_eq_false c15
                clear c15
                by_cases c16 : x3_1 > 2
                · rw [if_pos c16] at H
                  have c16b0 : decide (2 < x3_1) = true := decide_eq_true c16
                  clear c16
                  obtain ⟨ji17, hji17⟩ : ∃ j_ : Int, (wrap64 (x3_1 - 1)) = j_ := ⟨_, rfl⟩
                  replace H : (if 0 ≤ (ji17) then (if (ji17) < (l0.length : Int) then (if ((rd_T77 l0 (ji17)).f1) ≥ ((rd_T77 l0 x3_1).f1) then (some false) else (wispref07_right.l0 k1 l0 (wrap64 (x3_1 + 1)))) else (none)) else (none)) = some r := by first | (rw [hji17] at H; exact H) | (simp only [hji17] at H ⊢; exact H)
                  have hji17w : (IntKind.i64.wrap (x3_1 - 1)) = ji17 := (i64_w _).trans hji17
                  by_cases c18 : 0 ≤ (ji17)
                  · rw [if_pos c18] at H
                    have c18b0 : decide (0 ≤ (ji17)) = true := decide_eq_true c18
                    clear c18
                    by_cases c19 : (ji17) < (l0.length : Int)
                    · rw [if_pos c19] at H
                      have c19b0 : decide ((ji17) < (l0.length : Int)) = true := decide_eq_true c19
                      clear c19
                      by_cases c20 : ((rd_T77 l0 (ji17)).f1) ≥ ((rd_T77 l0 x3_1).f1)
                      · rw [if_pos c20] at H
                        have c20b0 : decide (((rd_T77 l0 x3_1).f1) ≤ ((rd_T77 l0 (ji17)).f1)) = true := decide_eq_true c20
                        clear c20
                        obtain rfl := Option.some.inj H
                        have p174 : 0 ≤ (x3_1 : Int) := of_decide_eq_true (by first | (with_reducible assumption) | assumption)
                        have q174 : x3_1 < (l0.length : Int) := of_decide_eq_true (by first | (with_reducible assumption) | assumption)
                        obtain ⟨ad174, A174_2, c174_2, e174, hx174_0, hx174_1, hx174_2, hl174_2, hi174_2⟩ := at_T77 HR0.out x3_1 p174 q174
                        cases e174
                        have HR174_2 := Aside0.mk hi174_2
                        have HC174_2 := Aside0.mk hl174_2
                        clear hi174_2 hl174_2
                        replace p174 := eq_true p174
                        replace q174 := eq_true q174
                        have p175 : 0 ≤ (x3_1 : Int) := of_decide_eq_true (by first | (with_reducible assumption) | assumption)
                        have q175 : x3_1 < (l0.length : Int) := of_decide_eq_true (by first | (with_reducible assumption) | assumption)
                        obtain ⟨ad175, A175_2, c175_2, e175, hx175_0, hx175_1, hx175_2, hl175_2, hi175_2⟩ := at_T77 HR0.out x3_1 p175 q175
                        obtain rfl : ad174 = ad175 := (by injection e175)
                        have HR175_2 := Aside0.mk hi175_2
                        have HC175_2 := Aside0.mk hl175_2
                        clear hi175_2 hl175_2
                        replace p175 := eq_true p175
                        replace q175 := eq_true q175
                        have ea_ := Option.some.inj (hx174_2.symm.trans hx175_2)
                        injection ea_ with ea_ en_ ec_
                        subst ea_
                        subst ec_
                        clear en_
                        have p176 : 0 ≤ ((ji17) : Int) := of_decide_eq_true (by first | (with_reducible assumption) | assumption)
                        have q176 : (ji17) < (l0.length : Int) := of_decide_eq_true (by first | (with_reducible assumption) | assumption)
                        obtain ⟨ad176, A176_2, c176_2, e176, hx176_0, hx176_1, hx176_2, hl176_2, hi176_2⟩ := at_T77 HR0.out (ji17) p176 q176
                        obtain rfl : ad174 = ad176 := (by injection e176)
                        have HR176_2 := Aside0.mk hi176_2
                        have HC176_2 := Aside0.mk hl176_2
                        clear hi176_2 hl176_2
                        replace p176 := eq_true p176
                        replace q176 := eq_true q176
                        have p177 : 0 ≤ (x3_1 : Int) := of_decide_eq_true (by first | (with_reducible assumption) | assumption)
                        have q177 : x3_1 < (l0.length : Int) := of_decide_eq_true (by first | (with_reducible assumption) | assumption)
                        obtain ⟨ad177, A177_2, c177_2, e177, hx177_0, hx177_1, hx177_2, hl177_2, hi177_2⟩ := at_T77 HR0.out x3_1 p177 q177
                        obtain rfl : ad174 = ad177 := (by injection e177)
                        have HR177_2 := Aside0.mk hi177_2
                        have HC177_2 := Aside0.mk hl177_2
                        clear hi177_2 hl177_2
                        replace p177 := eq_true p177
                        replace q177 := eq_true q177
                        have ea_ := Option.some.inj (hx174_2.symm.trans hx177_2)
                        injection ea_ with ea_ en_ ec_
                        subst ea_
                        subst ec_
                        clear en_
                        go_wp2
                        repeat (go_quiet (fail); try go_wp2)
                        go_ret
                        exact ⟨by first | rfl | (simp; done) | (simp only [← hji17] <;> (first | rfl | simp)) | (simp [*]; done) | (simp [isEmpty_ne]; done), by repeat (first | exact Drawn0.refl _ | apply Drawn0.step)⟩
                      · rw [if_neg c20] at H
                        have c20b0 : decide (((rd_T77 l0 x3_1).f1) ≤ ((rd_T77 l0 (ji17)).f1)) = false := decide_eq_false c20
                        clear c20
                        have H' := Aside0.mk H
                        clear H
                        have p174 : 0 ≤ (x3_1 : Int) := of_decide_eq_true (by first | (with_reducible assumption) | assumption)
                        have q174 : x3_1 < (l0.length : Int) := of_decide_eq_true (by first | (with_reducible assumption) | assumption)
                        obtain ⟨ad174, A174_2, c174_2, e174, hx174_0, hx174_1, hx174_2, hl174_2, hi174_2⟩ := at_T77 HR0.out x3_1 p174 q174
                        cases e174
                        have HR174_2 := Aside0.mk hi174_2
                        have HC174_2 := Aside0.mk hl174_2
                        clear hi174_2 hl174_2
                        replace p174 := eq_true p174
                        replace q174 := eq_true q174
                        have p175 : 0 ≤ (x3_1 : Int) := of_decide_eq_true (by first | (with_reducible assumption) | assumption)
                        have q175 : x3_1 < (l0.length : Int) := of_decide_eq_true (by first | (with_reducible assumption) | assumption)
                        obtain ⟨ad175, A175_2, c175_2, e175, hx175_0, hx175_1, hx175_2, hl175_2, hi175_2⟩ := at_T77 HR0.out x3_1 p175 q175
                        obtain rfl : ad174 = ad175 := (by injection e175)
                        have HR175_2 := Aside0.mk hi175_2
                        have HC175_2 := Aside0.mk hl175_2
                        clear hi175_2 hl175_2
                        replace p175 := eq_true p175
                        replace q175 := eq_true q175
                        have ea_ := Option.some.inj (hx174_2.symm.trans hx175_2)
                        injection ea_ with ea_ en_ ec_
                        subst ea_
                        subst ec_
                        clear en_
                        have p176 : 0 ≤ ((ji17) : Int) := of_decide_eq_true (by first | (with_reducible assumption) | assumption)
                        have q176 : (ji17) < (l0.length : Int) := of_decide_eq_true (by first | (with_reducible assumption) | assumption)
                        obtain ⟨ad176, A176_2, c176_2, e176, hx176_0, hx176_1, hx176_2, hl176_2, hi176_2⟩ := at_T77 HR0.out (ji17) p176 q176
                        obtain rfl : ad174 = ad176 := (by injection e176)
                        have HR176_2 := Aside0.mk hi176_2
                        have HC176_2 := Aside0.mk hl176_2
                        clear hi176_2 hl176_2
                        replace p176 := eq_true p176
                        replace q176 := eq_true q176
                        have p177 : 0 ≤ (x3_1 : Int) := of_decide_eq_true (by first | (with_reducible assumption) | assumption)
                        have q177 : x3_1 < (l0.length : Int) := of_decide_eq_true (by first | (with_reducible assumption) | assumption)
                        obtain ⟨ad177, A177_2, c177_2, e177, hx177_0, hx177_1, hx177_2, hl177_2, hi177_2⟩ := at_T77 HR0.out x3_1 p177 q177
                        obtain rfl : ad174 = ad177 := (by injection e177)
                        have HR177_2 := Aside0.mk hi177_2
                        have HC177_2 := Aside0.mk hl177_2
                        clear hi177_2 hl177_2
                        replace p177 := eq_true p177
                        replace q177 := eq_true q177
                        have ea_ := Option.some.inj (hx174_2.symm.trans hx177_2)
                        injection ea_ with ea_ en_ ec_
                        subst ea_
                        subst ec_
                        clear en_
                        go_wp2
                        repeat (go_quiet (fail); try go_wp2)
                        go_roundg k1
                        case measure => have := HK1.out; omega
                        case rel => exact ⟨(wrap64 (x3_1 + 1)), (by first | rfl | (simp; done) | (simp [*]; done) | (simp [isEmpty_ne]; done)), H', ⟨by have := HK1.out; omega⟩, by repeat (first | exact Drawn0.refl _ | apply Drawn0.step)⟩
                    · rw [if_neg c19] at H
                      exact absurd H (by simp)
                  · rw [if_neg c18] at H
                    exact absurd H (by simp)
                · rw [if_neg c16] at H
                  have c16b0 : decide (2 < x3_1) = false := decide_eq_false c16
                  clear c16
                  have H' := Aside0.mk H
                  clear H
                  have p174 : 0 ≤ (x3_1 : Int) := of_decide_eq_true (by first | (with_reducible assumption) | assumption)
                  have q174 : x3_1 < (l0.length : Int) := of_decide_eq_true (by first | (with_reducible assumption) | assumption)
                  obtain ⟨ad174, A174_2, c174_2, e174, hx174_0, hx174_1, hx174_2, hl174_2, hi174_2⟩ := at_T77 HR0.out x3_1 p174 q174
                  cases e174
                  have HR174_2 := Aside0.mk hi174_2
                  have HC174_2 := Aside0.mk hl174_2
                  clear hi174_2 hl174_2
                  replace p174 := eq_true p174
                  replace q174 := eq_true q174
                  have p175 : 0 ≤ (x3_1 : Int) := of_decide_eq_true (by first | (with_reducible assumption) | assumption)
                  have q175 : x3_1 < (l0.length : Int) := of_decide_eq_true (by first | (with_reducible assumption) | assumption)
                  obtain ⟨ad175, A175_2, c175_2, e175, hx175_0, hx175_1, hx175_2, hl175_2, hi175_2⟩ := at_T77 HR0.out x3_1 p175 q175
                  obtain rfl : ad174 = ad175 := (by injection e175)
                  have HR175_2 := Aside0.mk hi175_2
                  have HC175_2 := Aside0.mk hl175_2
                  clear hi175_2 hl175_2
                  replace p175 := eq_true p175
                  replace q175 := eq_true q175
                  have ea_ := Option.some.inj (hx174_2.symm.trans hx175_2)
                  injection ea_ with ea_ en_ ec_
                  subst ea_
                  subst ec_
                  clear en_
                  go_wp2
                  repeat (go_quiet (fail); try go_wp2)
                  go_roundg k1
                  case measure => have := HK1.out; omega
                  case rel => exact ⟨(wrap64 (x3_1 + 1)), (by first | rfl | (simp; done) | (simp [*]; done) | (simp [isEmpty_ne]; done)), H', ⟨by have := HK1.out; omega⟩, by repeat (first | exact Drawn0.refl _ | apply Drawn0.step)⟩
            · rw [if_neg c14] at H
              have c14b0 : (((rd_T77 l0 x3_1).f0) == 3) = false := beq_eq_false_iff_ne.mpr c14
              have c14b1 : (((rd_T77 l0 x3_1).f0) != 3) = true := bne_iff_ne.mpr c14
              obtain rfl := Option.some.inj H
              have p174 : 0 ≤ (x3_1 : Int) := of_decide_eq_true (by first | (with_reducible assumption) | assumption)
              have q174 : x3_1 < (l0.length : Int) := of_decide_eq_true (by first | (with_reducible assumption) | assumption)
              obtain ⟨ad174, A174_2, c174_2, e174, hx174_0, hx174_1, hx174_2, hl174_2, hi174_2⟩ := at_T77 HR0.out x3_1 p174 q174
              cases e174
              have HR174_2 := Aside0.mk hi174_2
              have HC174_2 := Aside0.mk hl174_2
              clear hi174_2 hl174_2
              replace p174 := eq_true p174
              replace q174 := eq_true q174
              go_wp2
              repeat (go_quiet (fail); try go_wp2)
              go_ret
              exact ⟨by first | rfl | (simp; done) | (simp [*]; done) | (simp [isEmpty_ne]; done), by repeat (first | exact Drawn0.refl _ | apply Drawn0.step)⟩
          · rw [if_neg c13] at H
            exact absurd H (by simp)
      · rw [if_neg c2] at H
        have c2b0 : decide (x3_1 < (l0.length : Int)) = false := decide_eq_false c2
        clear c2
        obtain rfl := Option.some.inj H
        go_wp2
        repeat (go_quiet (fail); try go_wp2)
        go_ret
        exact ⟨by first | rfl | (simp; done) | (simp [*]; done) | (simp [isEmpty_ne]; done), by repeat (first | exact Drawn0.refl _ | apply Drawn0.step)⟩

end Go.Proofs.YtembdahclmffjaaDoor.P
