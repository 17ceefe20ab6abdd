/- Printed by a program of this session (it turns the kit's print): see wip/myprint. -/
import Derived.Test.YtjphhnhloeanlaaPx0
import Derived.Test.YtjphhnhloeanlaaPx1
import Derived.Test.YtjphhnhloeanlaaPx5
import Derived.Test.YtjphhnhloeanlaaPlaces
namespace Go.Proofs.Ytjphhnhloeanlaa.P
open Go.RowKit Go.Proofs.YtjphhnhloeanlaaW.PrintWords Go.Proofs.YtjphhnhloeanlaaW.PrintLast Go.Proofs.YtjphhnhloeanlaaW.PrintMore Go.Proofs.Ytjphhnhloeanlaa.Mine
attribute [local go_sem] max2_int min2_int max_two min_two max_three min_three max_four min_four   -- for this text's walks alone
set_option linter.unusedVariables false
set_option linter.unusedSimpArgs false

attribute [local go_sem high] eqA25
/-! ### wisplaw02_TextRise: function 11 -/
mutual
def wisplaw02_TextRise.l0 : Nat → ByteArray → ByteArray → Int → List Int → Int → Option (Bool)
  | 0, _, _, _, _, _ => none
  | k + 1, x0, x1, x2, x7, x8 => if x8 ≤ (x0.size : Int) then (if x7.length < 17592186044416 then (wisplaw02_TextRise.l0 k x0 x1 x2 (x7 ++ [x8]) (wrap64 (x8 + 1))) else (none)) else ((text_Places.f k x0 x7).bind fun t229 => (if 0 ≤ x2 then (if x2 ≤ (x0.size : Int) then (if (x0.extract 0 (x2 : Int).toNat).size + x1.size ≤ 9223372036854775807 then ((text_Places.f k ((x0.extract 0 (x2 : Int).toNat) ++ x1) (([x2] : List Int))).bind fun t235 => (if (t229.length : Int) = (wrap64 ((x0.size : Int) + 1)) then (if (t235.length : Int) = 1 then (if 0 < (t235.length : Int) then (if x2 < (t229.length : Int) then (if (!(((rd_T25 t235 0).f0) == ((rd_T25 t229 x2).f0)) || (!(((rd_T25 t235 0).f1) == ((rd_T25 t229 x2).f1)))) = true then (wisplaw02_TextRise.j1 k x0 t229 true) else (if 0 < (t229.length : Int) then (wisplaw02_TextRise.j1 k x0 t229 (!(((rd_T25 t229 0).f0) == 1) || (!(((rd_T25 t229 0).f1) == 1)))) else (none))) else (none)) else (none)) else (wisplaw02_TextRise.j1 k x0 t229 true)) else (wisplaw02_TextRise.j1 k x0 t229 true))) else (none)) else (none)) else (none)))
def wisplaw02_TextRise.j1 : Nat → ByteArray → List (S25) → Bool → Option (Bool)
  | 0, _, _, _ => none
  | k + 1, x0, x9, x78 => if x78 = true then (some false) else (wisplaw02_TextRise.l1 k x0 x9 1)
def wisplaw02_TextRise.l1 : Nat → ByteArray → List (S25) → Int → Option (Bool)
  | 0, _, _, _ => none
  | k + 1, x0, x9, x11 => if x11 < (x9.length : Int) then (if 0 ≤ (wrap64 (x11 - 1)) then (if (wrap64 (x11 - 1)) < (x0.size : Int) then (if (bt x0 (wrap64 (x11 - 1))) = 10 then (if 0 ≤ x11 then (if (wrap64 (x11 - 1)) < (x9.length : Int) then (if (!(((rd_T25 x9 x11).f0) == (wrap64 (((rd_T25 x9 (wrap64 (x11 - 1))).f0) + 1))) || (!(((rd_T25 x9 x11).f1) == 1))) = true then (some false) else (wisplaw02_TextRise.l1 k x0 x9 (wrap64 (x11 + 1)))) else (none)) else (none)) else (if 0 ≤ x11 then (if (wrap64 (x11 - 1)) < (x9.length : Int) then (if (!(((rd_T25 x9 x11).f0) == ((rd_T25 x9 (wrap64 (x11 - 1))).f0)) || (!(((rd_T25 x9 x11).f1) == (wrap64 (((rd_T25 x9 (wrap64 (x11 - 1))).f1) + 1))))) = true then (some false) else (wisplaw02_TextRise.l1 k x0 x9 (wrap64 (x11 + 1)))) else (none)) else (none))) else (none)) else (none)) else (some true)
end
def wisplaw02_TextRise.f (k : Nat) (a0 : ByteArray) (a1 : ByteArray) (a2 : Int) : Option (Bool) := (wisplaw02_fixed.f k).bind fun t225 => (if t225 = true then (if 0 ≤ (mn (a0.size : Int) 3000) then (if (mn (a0.size : Int) 3000) ≤ (a0.size : Int) then (if 0 ≤ (mn (a1.size : Int) 3000) then (if (mn (a1.size : Int) 3000) ≤ (a1.size : Int) then (wisplaw02_TextRise.l0 k (a0.extract 0 ((mn (a0.size : Int) 3000) : Int).toNat) (a1.extract 0 ((mn (a1.size : Int) 3000) : Int).toNat) (mn (mx a2 0) ((a0.extract 0 ((mn (a0.size : Int) 3000) : Int).toNat).size : Int)) ([] : List Int) 0) else (none)) else (none)) else (none)) else (none)) else (some false))
theorem wisplaw02_TextRise.mono_l : ∀ k, (∀ y0 y1 y2 y3 y4, LeO (wisplaw02_TextRise.l0 k y0 y1 y2 y3 y4) (wisplaw02_TextRise.l0 (k + 1) y0 y1 y2 y3 y4)) ∧ (∀ y0 y1 y2, LeO (wisplaw02_TextRise.j1 k y0 y1 y2) (wisplaw02_TextRise.j1 (k + 1) y0 y1 y2)) ∧ (∀ y0 y1 y2, LeO (wisplaw02_TextRise.l1 k y0 y1 y2) (wisplaw02_TextRise.l1 (k + 1) y0 y1 y2))
  | 0 => ⟨fun _ _ _ _ _ r h => by simp [wisplaw02_TextRise.l0] at h, fun _ _ _ r h => by simp [wisplaw02_TextRise.j1] at h, fun _ _ _ r h => by simp [wisplaw02_TextRise.l1] at h⟩
  | k + 1 => by
    obtain ⟨ih0, ih1, ih2⟩ := wisplaw02_TextRise.mono_l k
    refine ⟨?_, ?_, ?_⟩
    · intro y0 y1 y2 y3 y4
      unfold wisplaw02_TextRise.l0
      repeat' first
      | (with_reducible exact ih0 _ _ _ _ _)
      | (with_reducible exact ih1 _ _ _)
      | (with_reducible exact ih2 _ _ _)
      | (with_reducible exact text_Places.mono _ _ _)
      | (with_reducible exact wisplaw02_fixed.mono _)
      | (with_reducible exact LeO.refl _)
      | (with_reducible exact LeO.none _)
      | (with_reducible refine LeO.ite ?_ ?_)
      | (with_reducible refine LeO.bind ?_ (fun _ => ?_))
      | exact ih0 _ _ _ _ _
      | exact ih1 _ _ _
      | exact ih2 _ _ _
      | exact text_Places.mono _ _ _
      | exact wisplaw02_fixed.mono _
      | exact LeO.none _
      | refine LeO.ite ?_ ?_
      | refine LeO.bind ?_ (fun _ => ?_)
    · intro y0 y1 y2
      unfold wisplaw02_TextRise.j1
      repeat' first
      | (with_reducible exact ih0 _ _ _ _ _)
      | (with_reducible exact ih1 _ _ _)
      | (with_reducible exact ih2 _ _ _)
      | (with_reducible exact text_Places.mono _ _ _)
      | (with_reducible exact wisplaw02_fixed.mono _)
      | (with_reducible exact LeO.refl _)
      | (with_reducible exact LeO.none _)
      | (with_reducible refine LeO.ite ?_ ?_)
      | (with_reducible refine LeO.bind ?_ (fun _ => ?_))
      | exact ih0 _ _ _ _ _
      | exact ih1 _ _ _
      | exact ih2 _ _ _
      | exact text_Places.mono _ _ _
      | exact wisplaw02_fixed.mono _
      | exact LeO.none _
      | refine LeO.ite ?_ ?_
      | refine LeO.bind ?_ (fun _ => ?_)
    · intro y0 y1 y2
      unfold wisplaw02_TextRise.l1
      repeat' first
      | (with_reducible exact ih0 _ _ _ _ _)
      | (with_reducible exact ih1 _ _ _)
      | (with_reducible exact ih2 _ _ _)
      | (with_reducible exact text_Places.mono _ _ _)
      | (with_reducible exact wisplaw02_fixed.mono _)
      | (with_reducible exact LeO.refl _)
      | (with_reducible exact LeO.none _)
      | (with_reducible refine LeO.ite ?_ ?_)
      | (with_reducible refine LeO.bind ?_ (fun _ => ?_))
      | exact ih0 _ _ _ _ _
      | exact ih1 _ _ _
      | exact ih2 _ _ _
      | exact text_Places.mono _ _ _
      | exact wisplaw02_fixed.mono _
      | exact LeO.none _
      | refine LeO.ite ?_ ?_
      | refine LeO.bind ?_ (fun _ => ?_)
theorem wisplaw02_TextRise.mono : ∀ a0 a1 a2 k, LeO (wisplaw02_TextRise.f k a0 a1 a2) (wisplaw02_TextRise.f (k + 1) a0 a1 a2) := by
  intro a0 a1 a2 k
  obtain ⟨ih0, ih1, ih2⟩ := wisplaw02_TextRise.mono_l k
  unfold wisplaw02_TextRise.f
  repeat' first
      | (with_reducible exact ih0 _ _ _ _ _)
      | (with_reducible exact ih1 _ _ _)
      | (with_reducible exact ih2 _ _ _)
      | (with_reducible exact text_Places.mono _ _ _)
      | (with_reducible exact wisplaw02_fixed.mono _)
      | (with_reducible exact LeO.refl _)
      | (with_reducible exact LeO.none _)
      | (with_reducible refine LeO.ite ?_ ?_)
      | (with_reducible refine LeO.bind ?_ (fun _ => ?_))
      | exact ih0 _ _ _ _ _
      | exact ih1 _ _ _
      | exact ih2 _ _ _
      | exact text_Places.mono _ _ _
      | exact wisplaw02_fixed.mono _
      | exact LeO.none _
      | refine LeO.ite ?_ ?_
      | refine LeO.bind ?_ (fun _ => ?_)
set_option maxHeartbeats 8000000 in
set_option maxRecDepth 100000 in
theorem wisplaw02_TextRise.calls (k : Nat) (a0 : ByteArray) (a1 : ByteArray) (a2 : Int) (r : Bool) (w : World) (h : wisplaw02_TextRise.f k a0 a1 a2 = some r) :
    Calls Try.prog 11 #[.string a0, .string a1, .int .i64 a2] w fun e w' => e = .returned (.bool r) ∧ Below w.heap.size w w' := by
  have hu25 := Try.underlying25
  have HB := Aside0.mk (Below.refl w.heap.size w)
  have H : ((wisplaw02_fixed.f k).bind fun t225 => (if t225 = true then (if 0 ≤ (mn (a0.size : Int) 3000) then (if (mn (a0.size : Int) 3000) ≤ (a0.size : Int) then (if 0 ≤ (mn (a1.size : Int) 3000) then (if (mn (a1.size : Int) 3000) ≤ (a1.size : Int) then (wisplaw02_TextRise.l0 k (a0.extract 0 ((mn (a0.size : Int) 3000) : Int).toNat) (a1.extract 0 ((mn (a1.size : Int) 3000) : Int).toNat) (mn (mx a2 0) ((a0.extract 0 ((mn (a0.size : Int) 3000) : Int).toNat).size : Int)) ([] : List Int) 0) else (none)) else (none)) else (none)) else (none)) else (some false))) = some r := h
  clear h
  replace H := Option.bind_eq_some_iff.mp H
  obtain ⟨t225, A40, H⟩ := H
  replace H : (if t225 = true then (if 0 ≤ (mn (a0.size : Int) 3000) then (if (mn (a0.size : Int) 3000) ≤ (a0.size : Int) then (if 0 ≤ (mn (a1.size : Int) 3000) then (if (mn (a1.size : Int) 3000) ≤ (a1.size : Int) then (wisplaw02_TextRise.l0 k (a0.extract 0 ((mn (a0.size : Int) 3000) : Int).toNat) (a1.extract 0 ((mn (a1.size : Int) 3000) : Int).toNat) (mn (mx a2 0) ((a0.extract 0 ((mn (a0.size : Int) 3000) : Int).toNat).size : Int)) ([] : List Int) 0) else (none)) else (none)) else (none)) else (none)) else (some false)) = some r := H
  have A4 := Aside0.mk A40
  clear A40
  by_cases c5 : t225 = true
  · subst c5
    have H1 : (if 0 ≤ (mn (a0.size : Int) 3000) then (if (mn (a0.size : Int) 3000) ≤ (a0.size : Int) then (if 0 ≤ (mn (a1.size : Int) 3000) then (if (mn (a1.size : Int) 3000) ≤ (a1.size : Int) then (wisplaw02_TextRise.l0 k (a0.extract 0 ((mn (a0.size : Int) 3000) : Int).toNat) (a1.extract 0 ((mn (a1.size : Int) 3000) : Int).toNat) (mn (mx a2 0) ((a0.extract 0 ((mn (a0.size : Int) 3000) : Int).toNat).size : Int)) ([] : List Int) 0) else (none)) else (none)) else (none)) else (none)) = some r := by rw [if_pos rfl] at H; exact H
    clear H
    have H := H1
    clear H1
    obtain ⟨ji6, hji6⟩ : ∃ j_ : Int, (mn (a0.size : Int) 3000) = j_ := ⟨_, rfl⟩
    replace H : (if 0 ≤ (ji6) then (if (ji6) ≤ (a0.size : Int) then (if 0 ≤ (mn (a1.size : Int) 3000) then (if (mn (a1.size : Int) 3000) ≤ (a1.size : Int) then (wisplaw02_TextRise.l0 k (a0.extract 0 ((ji6) : Int).toNat) (a1.extract 0 ((mn (a1.size : Int) 3000) : Int).toNat) (mn (mx a2 0) ((a0.extract 0 ((ji6) : Int).toNat).size : Int)) ([] : List Int) 0) else (none)) else (none)) else (none)) else (none)) = some r := by first | (rw [hji6] at H; exact H) | (simp only [hji6] at H ⊢; exact H)
    (try rw [hji6] at A4)
    (try (have hji6h : ji6 ≤ 3000 := by (rw [← hji6]; unfold mn; (repeat' split) <;> omega)))
    (try (have hji6g : ji6 ≤ 64 := by omega))
    (try (have hji6l : 0 ≤ ji6 := by (rw [← hji6]; unfold mn; (repeat' split) <;> omega)))
    (try (have hji6m : 0 ≤ ji6 := by omega))
    have hji6_ : (if 3000 < (a0.size : Int) then 3000 else (a0.size : Int)) = ji6 := hji6
    by_cases c7 : 0 ≤ (ji6)
    · rw [if_pos c7] at H
      have c7b0 := eq_true c7
      have c7b1 : decide (0 ≤ (ji6)) = true := decide_eq_true c7
      clear c7
      by_cases c8 : (ji6) ≤ (a0.size : Int)
      · rw [if_pos c8] at H
        have c8b0 := eq_true c8
        have c8b1 : decide ((ji6) ≤ (a0.size : Int)) = true := decide_eq_true c8
        clear c8
        obtain ⟨ji9, hji9⟩ : ∃ j_ : Int, (mn (a1.size : Int) 3000) = j_ := ⟨_, rfl⟩
        replace H : (if 0 ≤ (ji9) then (if (ji9) ≤ (a1.size : Int) then (wisplaw02_TextRise.l0 k (a0.extract 0 ((ji6) : Int).toNat) (a1.extract 0 ((ji9) : Int).toNat) (mn (mx a2 0) ((a0.extract 0 ((ji6) : Int).toNat).size : Int)) ([] : List Int) 0) else (none)) else (none)) = some r := by first | (rw [hji9] at H; exact H) | (simp only [hji9] at H ⊢; exact H)
        (try rw [hji9] at A4)
        (try (have hji9h : ji9 ≤ 3000 := by (rw [← hji9]; unfold mn; (repeat' split) <;> omega)))
        (try (have hji9g : ji9 ≤ 64 := by omega))
        (try (have hji9l : 0 ≤ ji9 := by (rw [← hji9]; unfold mn; (repeat' split) <;> omega)))
        (try (have hji9m : 0 ≤ ji9 := by omega))
        have hji9_ : (if 3000 < (a1.size : Int) then 3000 else (a1.size : Int)) = ji9 := hji9
        by_cases c10 : 0 ≤ (ji9)
        · rw [if_pos c10] at H
          have c10b0 := eq_true c10
          have c10b1 : decide (0 ≤ (ji9)) = true := decide_eq_true c10
          clear c10
          by_cases c11 : (ji9) ≤ (a1.size : Int)
          · rw [if_pos c11] at H
            have c11b0 := eq_true c11
            have c11b1 : decide ((ji9) ≤ (a1.size : Int)) = true := decide_eq_true c11
            clear c11
            obtain ⟨s6_, hs6_⟩ : ∃ s_ : ByteArray, a0.extract 0 (ji6 : Int).toNat = s_ := ⟨_, rfl⟩
            obtain ⟨s9_, hs9_⟩ : ∃ s_ : ByteArray, a1.extract 0 (ji9 : Int).toNat = s_ := ⟨_, rfl⟩
            rw [hs6_, hs9_] at H
            obtain ⟨ji12, hji12⟩ : ∃ j_ : Int, (mx a2 0) = j_ := ⟨_, rfl⟩
            replace H : (wisplaw02_TextRise.l0 k s6_ s9_ (mn (ji12) (s6_.size : Int)) ([] : List Int) 0) = some r := by first | (rw [hji12] at H; exact H) | (simp only [hji12] at H ⊢; exact H)
            (try rw [hji12] at A4)
            (try (have hji12l : 0 ≤ ji12 := by (rw [← hji12]; unfold mx; (repeat' split) <;> omega)))
            (try (have hji12m : 0 ≤ ji12 := by omega))
            have hji12_ : (if a2 < 0 then 0 else a2) = ji12 := hji12
            obtain ⟨ji13, hji13⟩ : ∃ j_ : Int, (mn (ji12) (s6_.size : Int)) = j_ := ⟨_, rfl⟩
            replace H : (wisplaw02_TextRise.l0 k s6_ s9_ ji13 ([] : List Int) 0) = some r := by first | (rw [hji13] at H; exact H) | (simp only [hji13] at H ⊢; exact H)
            (try rw [hji13] at A4)
            have hji13_ : (if (s6_.size : Int) < (ji12) then (s6_.size : Int) else (ji12)) = ji13 := hji13
            have H' := Aside0.mk H
            clear H
            go_enter Try.func11, Try.ntmps11
            go_wp2_with (first | (go_at_call 23; (with_reducible refine (wisplaw02_fixed.calls k  true _ A4.out).mono ?_); rintro e w14 ⟨rfl, hb⟩; have n0_ := Aside0.mk (below_step (by repeat (first | (with_reducible first | exact HB.out | apply below_alloc | apply pw_below_drewN | apply below_drew1) | exact HB.out)) hb); clear HB; have HB := n0_; clear n0_; (try clear hb); (try clear hb2); (try clear hk); (try clear hi)))
            repeat (go_quiet (first | (go_at_call 23; (with_reducible refine (wisplaw02_fixed.calls k  true _ A4.out).mono ?_); rintro e w14 ⟨rfl, hb⟩; have n0_ := Aside0.mk (below_step (by repeat (first | (with_reducible first | exact HB.out | apply below_alloc | apply pw_below_drewN | apply below_drew1) | exact HB.out)) hb); clear HB; have HB := n0_; clear n0_; (try clear hb); (try clear hb2); (try clear hk); (try clear hi))); try go_wp2_with (first | (go_at_call 23; (with_reducible refine (wisplaw02_fixed.calls k  true _ A4.out).mono ?_); rintro e w14 ⟨rfl, hb⟩; have n0_ := Aside0.mk (below_step (by repeat (first | (with_reducible first | exact HB.out | apply below_alloc | apply pw_below_drewN | apply below_drew1) | exact HB.out)) hb); clear HB; have HB := n0_; clear n0_; (try clear hb); (try clear hb2); (try clear hk); (try clear hi))))
            go_loopg [7, 8] k (fun kq v7 v8 w' => ∃ (x7_1 : List Int) (x8_1 : Int), v8 = .int .i64 x8_1 ∧ Aside0 (wisplaw02_TextRise.l0 kq s6_ s9_ ji13 x7_1 x8_1 = some r) ∧ Aside0 (kq ≤ k) ∧ Aside0 (Kd.R (Kd.int .i64) 3 w' w.heap.size (fun _ => True) v7 x7_1) ∧ Aside0 (Below w.heap.size w w'))
            case atStart => exact ⟨(([] : List Int)), (0), (by first | rfl | (simp; done) | (simp [*]; done) | (simp [isEmpty_ne]; done)), H', ⟨Nat.le_refl _⟩, ⟨by first | exact Kd.R_nil _ _ _ _ _ | exact Kd.N_nil _ _ _ _ _ | exact Kd.V_nil _ _ _ _ _ | exact Kd.Q_nil _ _ _ _ _ | exact Kd.S_nil _ _ _ _ _⟩, ⟨by repeat (first | (with_reducible first | exact HB.out | apply below_alloc | apply pw_below_drewN | apply below_drew1) | exact HB.out)⟩⟩
            case round =>
              clear H'
              try clear c1
              try clear p2
              try clear c5
              try clear c7
              try clear c7b0
              try clear c7b1
              try clear c8
              try clear c8b0
              try clear c8b1
              try clear c10
              try clear c10b0
              try clear c10b1
              try clear c11
              try clear c11b0
              try clear c11b1
              obtain ⟨x7_1, x8_1, rfl, HA, HK1, HO_7, HB⟩ := hrel
              cases gk with
              | zero => exact absurd HA.out (by simp [wisplaw02_TextRise.l0])
              | succ k1 =>
                have H := HA.out
                clear HA
                simp only [wisplaw02_TextRise.l0] at H
                by_cases c15 : x8_1 ≤ (s6_.size : Int)
                · rw [if_pos c15] at H
                  have c15b0 : decide (x8_1 ≤ (s6_.size : Int)) = true := decide_eq_true c15
                  clear c15
                  by_cases c16 : x7_1.length < 17592186044416
                  · rw [if_pos c16] at H
                    have LMc16 := Aside0.mk c16
                    clear c16
                    obtain ⟨y226, hy226⟩ : ∃ y_ : List Int, y_ = (x7_1 ++ [x8_1]) := ⟨_, rfl⟩
                    replace H : (wisplaw02_TextRise.l0 k1 s6_ s9_ ji13 y226 (wrap64 (x8_1 + 1))) = some r := by first | (rw [hy226]; with_reducible exact H) | (have H2_ := (Option.bind_some _ _).symm.trans H; rw [hy226]; with_reducible exact H2_) | (have H2_ := (Option.bind_some _ _).symm.trans H; with_reducible exact H2_) | with_reducible exact H | (rw [hy226]; exact H) | exact H
                    have Ny226 := Aside0.mk hy226
                    clear hy226
                    have H' := Aside0.mk H
                    clear H
                    go_wp2_with (first | ((with_reducible refine gate_builtin (b := .append) (xs := #[.tmp 36, .tmp 38]) rfl ?_); (try (refine gate_guard (by rfl) ?_; dsimp only)); at_builtin; refine Kd.R_append (Kd.int .i64) (w0 := w) w.heap.size rfl (.tmp 36) (.tmp 38) 66 3 (.int .i64 0) 8 rfl Try.underlying66 info3 rfl (by decide) (by omega) u7 x7_1 x8_1 [.int .i64 x8_1] (fun _ => True) (fun _ => False) rfl rfl ?aP (fun _ hk => hk.elim) ?aF ?aO ?aB ?aS ?aL ?_; (case aP => exact rfl); (case aB => exact (by repeat (first | (with_reducible first | exact HB.out | apply below_alloc | apply pw_below_drewN | apply below_drew1) | exact HB.out))); (case aF => exact (fun _ _ => trivial)); (case aO => exact (by (with_reducible repeat (first | apply Kd.R_alloc | apply Kd.R_drewN | apply Kd.R_drew)); exact HO_7.out)); (case aS => exact (below_size (by repeat (first | (with_reducible first | exact HB.out | apply below_alloc | apply pw_below_drewN | apply below_drew1) | exact HB.out)))); (case aL => have := LMc16.out; omega); intro v227 w17 ho hb hg hat; rw [← Ny226.out] at ho; have n0_ := Aside0.mk (hb); have n1_ := Aside0.mk (ho); clear HB; clear HO_7; have HB := n0_; have HO228 := n1_; clear n0_ n1_; clear ho hb hg hat))
                    repeat (go_quiet (first | ((with_reducible refine gate_builtin (b := .append) (xs := #[.tmp 36, .tmp 38]) rfl ?_); (try (refine gate_guard (by rfl) ?_; dsimp only)); at_builtin; refine Kd.R_append (Kd.int .i64) (w0 := w) w.heap.size rfl (.tmp 36) (.tmp 38) 66 3 (.int .i64 0) 8 rfl Try.underlying66 info3 rfl (by decide) (by omega) u7 x7_1 x8_1 [.int .i64 x8_1] (fun _ => True) (fun _ => False) rfl rfl ?aP (fun _ hk => hk.elim) ?aF ?aO ?aB ?aS ?aL ?_; (case aP => exact rfl); (case aB => exact (by repeat (first | (with_reducible first | exact HB.out | apply below_alloc | apply pw_below_drewN | apply below_drew1) | exact HB.out))); (case aF => exact (fun _ _ => trivial)); (case aO => exact (by (with_reducible repeat (first | apply Kd.R_alloc | apply Kd.R_drewN | apply Kd.R_drew)); exact HO_7.out)); (case aS => exact (below_size (by repeat (first | (with_reducible first | exact HB.out | apply below_alloc | apply pw_below_drewN | apply below_drew1) | exact HB.out)))); (case aL => have := LMc16.out; omega); intro v227 w17 ho hb hg hat; rw [← Ny226.out] at ho; have n0_ := Aside0.mk (hb); have n1_ := Aside0.mk (ho); clear HB; clear HO_7; have HB := n0_; have HO228 := n1_; clear n0_ n1_; clear ho hb hg hat)); try go_wp2_with (first | ((with_reducible refine gate_builtin (b := .append) (xs := #[.tmp 36, .tmp 38]) rfl ?_); (try (refine gate_guard (by rfl) ?_; dsimp only)); at_builtin; refine Kd.R_append (Kd.int .i64) (w0 := w) w.heap.size rfl (.tmp 36) (.tmp 38) 66 3 (.int .i64 0) 8 rfl Try.underlying66 info3 rfl (by decide) (by omega) u7 x7_1 x8_1 [.int .i64 x8_1] (fun _ => True) (fun _ => False) rfl rfl ?aP (fun _ hk => hk.elim) ?aF ?aO ?aB ?aS ?aL ?_; (case aP => exact rfl); (case aB => exact (by repeat (first | (with_reducible first | exact HB.out | apply below_alloc | apply pw_below_drewN | apply below_drew1) | exact HB.out))); (case aF => exact (fun _ _ => trivial)); (case aO => exact (by (with_reducible repeat (first | apply Kd.R_alloc | apply Kd.R_drewN | apply Kd.R_drew)); exact HO_7.out)); (case aS => exact (below_size (by repeat (first | (with_reducible first | exact HB.out | apply below_alloc | apply pw_below_drewN | apply below_drew1) | exact HB.out)))); (case aL => have := LMc16.out; omega); intro v227 w17 ho hb hg hat; rw [← Ny226.out] at ho; have n0_ := Aside0.mk (hb); have n1_ := Aside0.mk (ho); clear HB; clear HO_7; have HB := n0_; have HO228 := n1_; clear n0_ n1_; clear ho hb hg hat)))
                    go_roundg k1
                    case measure => have := HK1.out; omega
                    case rel => exact ⟨(y226), (wrap64 (x8_1 + 1)), (by first | rfl | (simp; done) | (simp [*]; done) | (simp [isEmpty_ne]; done)), H', ⟨by have := HK1.out; omega⟩, ⟨by (with_reducible repeat (first | apply Kd.R_alloc | apply Kd.R_drewN | apply Kd.R_drew)); exact HO228.out⟩, ⟨by repeat (first | (with_reducible first | exact HB.out | apply below_alloc | apply pw_below_drewN | apply below_drew1) | exact HB.out)⟩⟩
                  · rw [if_neg c16] at H
                    exact absurd H (by simp)
                · rw [if_neg c15] at H
                  have c15b0 : decide (x8_1 ≤ (s6_.size : Int)) = false := decide_eq_false c15
                  clear c15
                  replace H := Option.bind_eq_some_iff.mp H
                  obtain ⟨t229, A180, H⟩ := H
                  replace H : (if 0 ≤ ji13 then (if ji13 ≤ (s6_.size : Int) then (if (s6_.extract 0 (ji13 : Int).toNat).size + s9_.size ≤ 9223372036854775807 then ((text_Places.f k1 ((s6_.extract 0 (ji13 : Int).toNat) ++ s9_) (([ji13] : List Int))).bind fun t235 => (if (t229.length : Int) = (wrap64 ((s6_.size : Int) + 1)) then (if (t235.length : Int) = 1 then (if 0 < (t235.length : Int) then (if ji13 < (t229.length : Int) then (if (!(((rd_T25 t235 0).f0) == ((rd_T25 t229 ji13).f0)) || (!(((rd_T25 t235 0).f1) == ((rd_T25 t229 ji13).f1)))) = true then (wisplaw02_TextRise.j1 k1 s6_ t229 true) else (if 0 < (t229.length : Int) then (wisplaw02_TextRise.j1 k1 s6_ t229 (!(((rd_T25 t229 0).f0) == 1) || (!(((rd_T25 t229 0).f1) == 1)))) else (none))) else (none)) else (none)) else (wisplaw02_TextRise.j1 k1 s6_ t229 true)) else (wisplaw02_TextRise.j1 k1 s6_ t229 true))) else (none)) else (none)) else (none)) = some r := H
                  have A18 := Aside0.mk A180
                  clear A180
                  by_cases c19 : 0 ≤ ji13
                  · rw [if_pos c19] at H
                    have c19b0 := eq_true c19
                    have c19b1 : decide (0 ≤ ji13) = true := decide_eq_true c19
                    clear c19
                    by_cases c20 : ji13 ≤ (s6_.size : Int)
                    · rw [if_pos c20] at H
                      have c20b0 := eq_true c20
                      have c20b1 : decide (ji13 ≤ (s6_.size : Int)) = true := decide_eq_true c20
                      clear c20
                      by_cases c21 : (s6_.extract 0 (ji13 : Int).toNat).size + s9_.size ≤ 9223372036854775807
                      · rw [if_pos c21] at H
                        have c21b0 := eq_true c21
                        have c21b1 : decide ((s6_.extract 0 (ji13 : Int).toNat).size + s9_.size ≤ 9223372036854775807) = true := decide_eq_true c21
                        try have c21b2 : (9223372036854775807 < (s6_.extract 0 (ji13 : Int).toNat).size + s9_.size) = False := eq_false (Nat.not_lt.2 c21)
                        obtain ⟨y232, hy232⟩ : ∃ y_ : List Int, y_ = (([ji13] : List Int)) := ⟨_, rfl⟩
                        replace H : ((text_Places.f k1 ((s6_.extract 0 (ji13 : Int).toNat) ++ s9_) y232).bind fun t235 => (if (t229.length : Int) = (wrap64 ((s6_.size : Int) + 1)) then (if (t235.length : Int) = 1 then (if 0 < (t235.length : Int) then (if ji13 < (t229.length : Int) then (if (!(((rd_T25 t235 0).f0) == ((rd_T25 t229 ji13).f0)) || (!(((rd_T25 t235 0).f1) == ((rd_T25 t229 ji13).f1)))) = true then (wisplaw02_TextRise.j1 k1 s6_ t229 true) else (if 0 < (t229.length : Int) then (wisplaw02_TextRise.j1 k1 s6_ t229 (!(((rd_T25 t229 0).f0) == 1) || (!(((rd_T25 t229 0).f1) == 1)))) else (none))) else (none)) else (none)) else (wisplaw02_TextRise.j1 k1 s6_ t229 true)) else (wisplaw02_TextRise.j1 k1 s6_ t229 true))) = some r := by first | (rw [hy232]; with_reducible exact H) | (have H2_ := (Option.bind_some _ _).symm.trans H; rw [hy232]; with_reducible exact H2_) | (have H2_ := (Option.bind_some _ _).symm.trans H; with_reducible exact H2_) | with_reducible exact H | (rw [hy232]; exact H) | exact H
                        have Ny232 := Aside0.mk hy232
                        clear hy232
                        replace H := Option.bind_eq_some_iff.mp H
                        obtain ⟨t235, A220, H⟩ := H
                        replace H : (if (t229.length : Int) = (wrap64 ((s6_.size : Int) + 1)) then (if (t235.length : Int) = 1 then (if 0 < (t235.length : Int) then (if ji13 < (t229.length : Int) then (if (!(((rd_T25 t235 0).f0) == ((rd_T25 t229 ji13).f0)) || (!(((rd_T25 t235 0).f1) == ((rd_T25 t229 ji13).f1)))) = true then (wisplaw02_TextRise.j1 k1 s6_ t229 true) else (if 0 < (t229.length : Int) then (wisplaw02_TextRise.j1 k1 s6_ t229 (!(((rd_T25 t229 0).f0) == 1) || (!(((rd_T25 t229 0).f1) == 1)))) else (none))) else (none)) else (none)) else (wisplaw02_TextRise.j1 k1 s6_ t229 true)) else (wisplaw02_TextRise.j1 k1 s6_ t229 true)) = some r := H
                        have A22 := Aside0.mk A220
                        clear A220
                        have HC23 := Aside0.mk H
                        clear H
                        obtain ⟨Ao24, co24, eo24⟩ := Kd.R_slice HO_7.out
                        subst eo24
                        go_upto_region 13 with (first | (go_at_call 26; (with_reducible refine (text_Places.calls k1 s6_ _ _ x7_1 t229 _ ?side1 ?side2 A18.out).mono ?_); (case side1 => repeat (first | exact (Kd.R_reads' HO_7.out).2.2 | (with_reducible refine Kd.C_alloc ?_ _) | (with_reducible refine Kd.C_drewN ?_ _) | (with_reducible refine Kd.C_drew ?_))); (case side2 => exact (Kd.R_reads' HO_7.out).2.1); rintro e w25 ⟨v230, rfl, ho0, hb⟩; have n0_ := Aside0.mk (Kd.R_below (by (with_reducible repeat (first | apply Kd.R_alloc | apply Kd.R_drewN | apply Kd.R_drew)); exact HO_7.out) hb); have n1_ := Aside0.mk (Kd.R_lower ho0 (below_size (by repeat (first | (with_reducible first | exact HB.out | apply below_alloc | apply pw_below_drewN | apply below_drew1) | exact HB.out)))); have n2_ := Aside0.mk (below_step (by repeat (first | (with_reducible first | exact HB.out | apply below_alloc | apply pw_below_drewN | apply below_drew1) | exact HB.out)) hb); clear HO_7; clear HB; have HO_7 := n0_; have HO231 := n1_; have HB := n2_; clear n0_ n1_ n2_; (try clear hb); (try clear hb2); (try clear hk); (try clear hi); (try clear ho0)) | ((with_reducible refine gate_dst (N := 49) rfl ?_); (try (refine gate_guard (by rfl) ?_; dsimp only)); refine Kd.R_lit (Kd.int .i64) _ 3 ?hg (N := 49) ?hd (xs := ([ji13] : List Int)) (inner := [.int .i64 ji13]) (ok := fun _ => True) (okp := fun _ => True) ?hr ?hp (fun _ hk => hk) trivial (Below.refl _ _) (Nat.le_refl _) (by simp) ?_; (case hd => rfl); (case hg => rfl); (case hr => first | (go_simp; done) | (go_simp; rfl)); (case hp => exact (Reps.one (show Kd.M (Kd.int .i64) _ _ _ ji13 [.int .i64 ji13] from rfl) (Reps.none _ _))); intro v233 w26 ho27 hb hg_ hnew_; clear hg_ hnew_; (first | rw [← Ny232.out] at ho27 | (simp only [Int.reduceToNat] at ho27; rw [← Ny232.out] at ho27)); have n0_ := Aside0.mk (Kd.R_elder' (by (with_reducible repeat (first | apply Kd.R_alloc | apply Kd.R_drewN | apply Kd.R_drew)); exact HO_7.out) (Kd.R_base ho27) hb); have n1_ := Aside0.mk (Kd.R_below (by (with_reducible repeat (first | apply Kd.R_alloc | apply Kd.R_drewN | apply Kd.R_drew)); exact HO231.out) hb); have n2_ := Aside0.mk (Kd.R_lower (Kd.R_new' ho27 (Kd.R_lt (by (with_reducible repeat (first | apply Kd.R_alloc | apply Kd.R_drewN | apply Kd.R_drew)); exact HO_7.out))) (below_size (by repeat (first | (with_reducible first | exact HB.out | apply below_alloc | apply pw_below_drewN | apply below_drew1) | exact HB.out)))); have n3_ := Aside0.mk (below_step (by repeat (first | (with_reducible first | exact HB.out | apply below_alloc | apply pw_below_drewN | apply below_drew1) | exact HB.out)) hb); clear HO_7; clear HO231; clear HB; have HO_7 := n0_; have HO231 := n1_; have HO234 := n2_; have HB := n3_; clear n0_ n1_ n2_ n3_; clear hb ho27; obtain ⟨Ao28, co28, eo28⟩ := Kd.R_slice HO234.out; subst eo28) | (go_at_call 26; (with_reducible refine (text_Places.calls k1 ((s6_.extract 0 (ji13 : Int).toNat) ++ s9_) _ _ y232 t235 _ ?side1 ?side2 A22.out).mono ?_); (case side1 => repeat (first | exact (Kd.R_reads' HO234.out).2.2 | (with_reducible refine Kd.C_alloc ?_ _) | (with_reducible refine Kd.C_drewN ?_ _) | (with_reducible refine Kd.C_drew ?_))); (case side2 => exact (Kd.R_reads' HO234.out).2.1); rintro e w29 ⟨v236, rfl, ho0, hb⟩; have n0_ := Aside0.mk (Kd.R_below (by (with_reducible repeat (first | apply Kd.R_alloc | apply Kd.R_drewN | apply Kd.R_drew)); exact HO_7.out) hb); have n1_ := Aside0.mk (Kd.R_elder' (by (with_reducible repeat (first | apply Kd.R_alloc | apply Kd.R_drewN | apply Kd.R_drew)); exact HO231.out) (Kd.R_base ho0) hb); have n2_ := Aside0.mk (Kd.R_below (by (with_reducible repeat (first | apply Kd.R_alloc | apply Kd.R_drewN | apply Kd.R_drew)); exact HO234.out) hb); have n3_ := Aside0.mk (Kd.R_lower (Kd.R_new' ho0 (Kd.R_lt (by (with_reducible repeat (first | apply Kd.R_alloc | apply Kd.R_drewN | apply Kd.R_drew)); exact HO231.out))) (below_size (by repeat (first | (with_reducible first | exact HB.out | apply below_alloc | apply pw_below_drewN | apply below_drew1) | exact HB.out)))); have n4_ := Aside0.mk (below_step (by repeat (first | (with_reducible first | exact HB.out | apply below_alloc | apply pw_below_drewN | apply below_drew1) | exact HB.out)) hb); clear HO_7; clear HO231; clear HO234; clear HB; have HO_7 := n0_; have HO231 := n1_; have HO234 := n2_; have HO237 := n3_; have HB := n4_; clear n0_ n1_ n2_ n3_ n4_; (try clear hb); (try clear hb2); (try clear hk); (try clear hi); (try clear ho0)))
                        repeat (go_quiet (first | (go_at_call 26; (with_reducible refine (text_Places.calls k1 s6_ _ _ x7_1 t229 _ ?side1 ?side2 A18.out).mono ?_); (case side1 => repeat (first | exact (Kd.R_reads' HO_7.out).2.2 | (with_reducible refine Kd.C_alloc ?_ _) | (with_reducible refine Kd.C_drewN ?_ _) | (with_reducible refine Kd.C_drew ?_))); (case side2 => exact (Kd.R_reads' HO_7.out).2.1); rintro e w25 ⟨v230, rfl, ho0, hb⟩; have n0_ := Aside0.mk (Kd.R_below (by (with_reducible repeat (first | apply Kd.R_alloc | apply Kd.R_drewN | apply Kd.R_drew)); exact HO_7.out) hb); have n1_ := Aside0.mk (Kd.R_lower ho0 (below_size (by repeat (first | (with_reducible first | exact HB.out | apply below_alloc | apply pw_below_drewN | apply below_drew1) | exact HB.out)))); have n2_ := Aside0.mk (below_step (by repeat (first | (with_reducible first | exact HB.out | apply below_alloc | apply pw_below_drewN | apply below_drew1) | exact HB.out)) hb); clear HO_7; clear HB; have HO_7 := n0_; have HO231 := n1_; have HB := n2_; clear n0_ n1_ n2_; (try clear hb); (try clear hb2); (try clear hk); (try clear hi); (try clear ho0)) | ((with_reducible refine gate_dst (N := 49) rfl ?_); (try (refine gate_guard (by rfl) ?_; dsimp only)); refine Kd.R_lit (Kd.int .i64) _ 3 ?hg (N := 49) ?hd (xs := ([ji13] : List Int)) (inner := [.int .i64 ji13]) (ok := fun _ => True) (okp := fun _ => True) ?hr ?hp (fun _ hk => hk) trivial (Below.refl _ _) (Nat.le_refl _) (by simp) ?_; (case hd => rfl); (case hg => rfl); (case hr => first | (go_simp; done) | (go_simp; rfl)); (case hp => exact (Reps.one (show Kd.M (Kd.int .i64) _ _ _ ji13 [.int .i64 ji13] from rfl) (Reps.none _ _))); intro v233 w26 ho27 hb hg_ hnew_; clear hg_ hnew_; (first | rw [← Ny232.out] at ho27 | (simp only [Int.reduceToNat] at ho27; rw [← Ny232.out] at ho27)); have n0_ := Aside0.mk (Kd.R_elder' (by (with_reducible repeat (first | apply Kd.R_alloc | apply Kd.R_drewN | apply Kd.R_drew)); exact HO_7.out) (Kd.R_base ho27) hb); have n1_ := Aside0.mk (Kd.R_below (by (with_reducible repeat (first | apply Kd.R_alloc | apply Kd.R_drewN | apply Kd.R_drew)); exact HO231.out) hb); have n2_ := Aside0.mk (Kd.R_lower (Kd.R_new' ho27 (Kd.R_lt (by (with_reducible repeat (first | apply Kd.R_alloc | apply Kd.R_drewN | apply Kd.R_drew)); exact HO_7.out))) (below_size (by repeat (first | (with_reducible first | exact HB.out | apply below_alloc | apply pw_below_drewN | apply below_drew1) | exact HB.out)))); have n3_ := Aside0.mk (below_step (by repeat (first | (with_reducible first | exact HB.out | apply below_alloc | apply pw_below_drewN | apply below_drew1) | exact HB.out)) hb); clear HO_7; clear HO231; clear HB; have HO_7 := n0_; have HO231 := n1_; have HO234 := n2_; have HB := n3_; clear n0_ n1_ n2_ n3_; clear hb ho27; obtain ⟨Ao28, co28, eo28⟩ := Kd.R_slice HO234.out; subst eo28) | (go_at_call 26; (with_reducible refine (text_Places.calls k1 ((s6_.extract 0 (ji13 : Int).toNat) ++ s9_) _ _ y232 t235 _ ?side1 ?side2 A22.out).mono ?_); (case side1 => repeat (first | exact (Kd.R_reads' HO234.out).2.2 | (with_reducible refine Kd.C_alloc ?_ _) | (with_reducible refine Kd.C_drewN ?_ _) | (with_reducible refine Kd.C_drew ?_))); (case side2 => exact (Kd.R_reads' HO234.out).2.1); rintro e w29 ⟨v236, rfl, ho0, hb⟩; have n0_ := Aside0.mk (Kd.R_below (by (with_reducible repeat (first | apply Kd.R_alloc | apply Kd.R_drewN | apply Kd.R_drew)); exact HO_7.out) hb); have n1_ := Aside0.mk (Kd.R_elder' (by (with_reducible repeat (first | apply Kd.R_alloc | apply Kd.R_drewN | apply Kd.R_drew)); exact HO231.out) (Kd.R_base ho0) hb); have n2_ := Aside0.mk (Kd.R_below (by (with_reducible repeat (first | apply Kd.R_alloc | apply Kd.R_drewN | apply Kd.R_drew)); exact HO234.out) hb); have n3_ := Aside0.mk (Kd.R_lower (Kd.R_new' ho0 (Kd.R_lt (by (with_reducible repeat (first | apply Kd.R_alloc | apply Kd.R_drewN | apply Kd.R_drew)); exact HO231.out))) (below_size (by repeat (first | (with_reducible first | exact HB.out | apply below_alloc | apply pw_below_drewN | apply below_drew1) | exact HB.out)))); have n4_ := Aside0.mk (below_step (by repeat (first | (with_reducible first | exact HB.out | apply below_alloc | apply pw_below_drewN | apply below_drew1) | exact HB.out)) hb); clear HO_7; clear HO231; clear HO234; clear HB; have HO_7 := n0_; have HO231 := n1_; have HO234 := n2_; have HO237 := n3_; have HB := n4_; clear n0_ n1_ n2_ n3_ n4_; (try clear hb); (try clear hb2); (try clear hk); (try clear hi); (try clear ho0))); go_upto_region 13 with (first | (go_at_call 26; (with_reducible refine (text_Places.calls k1 s6_ _ _ x7_1 t229 _ ?side1 ?side2 A18.out).mono ?_); (case side1 => repeat (first | exact (Kd.R_reads' HO_7.out).2.2 | (with_reducible refine Kd.C_alloc ?_ _) | (with_reducible refine Kd.C_drewN ?_ _) | (with_reducible refine Kd.C_drew ?_))); (case side2 => exact (Kd.R_reads' HO_7.out).2.1); rintro e w25 ⟨v230, rfl, ho0, hb⟩; have n0_ := Aside0.mk (Kd.R_below (by (with_reducible repeat (first | apply Kd.R_alloc | apply Kd.R_drewN | apply Kd.R_drew)); exact HO_7.out) hb); have n1_ := Aside0.mk (Kd.R_lower ho0 (below_size (by repeat (first | (with_reducible first | exact HB.out | apply below_alloc | apply pw_below_drewN | apply below_drew1) | exact HB.out)))); have n2_ := Aside0.mk (below_step (by repeat (first | (with_reducible first | exact HB.out | apply below_alloc | apply pw_below_drewN | apply below_drew1) | exact HB.out)) hb); clear HO_7; clear HB; have HO_7 := n0_; have HO231 := n1_; have HB := n2_; clear n0_ n1_ n2_; (try clear hb); (try clear hb2); (try clear hk); (try clear hi); (try clear ho0)) | ((with_reducible refine gate_dst (N := 49) rfl ?_); (try (refine gate_guard (by rfl) ?_; dsimp only)); refine Kd.R_lit (Kd.int .i64) _ 3 ?hg (N := 49) ?hd (xs := ([ji13] : List Int)) (inner := [.int .i64 ji13]) (ok := fun _ => True) (okp := fun _ => True) ?hr ?hp (fun _ hk => hk) trivial (Below.refl _ _) (Nat.le_refl _) (by simp) ?_; (case hd => rfl); (case hg => rfl); (case hr => first | (go_simp; done) | (go_simp; rfl)); (case hp => exact (Reps.one (show Kd.M (Kd.int .i64) _ _ _ ji13 [.int .i64 ji13] from rfl) (Reps.none _ _))); intro v233 w26 ho27 hb hg_ hnew_; clear hg_ hnew_; (first | rw [← Ny232.out] at ho27 | (simp only [Int.reduceToNat] at ho27; rw [← Ny232.out] at ho27)); have n0_ := Aside0.mk (Kd.R_elder' (by (with_reducible repeat (first | apply Kd.R_alloc | apply Kd.R_drewN | apply Kd.R_drew)); exact HO_7.out) (Kd.R_base ho27) hb); have n1_ := Aside0.mk (Kd.R_below (by (with_reducible repeat (first | apply Kd.R_alloc | apply Kd.R_drewN | apply Kd.R_drew)); exact HO231.out) hb); have n2_ := Aside0.mk (Kd.R_lower (Kd.R_new' ho27 (Kd.R_lt (by (with_reducible repeat (first | apply Kd.R_alloc | apply Kd.R_drewN | apply Kd.R_drew)); exact HO_7.out))) (below_size (by repeat (first | (with_reducible first | exact HB.out | apply below_alloc | apply pw_below_drewN | apply below_drew1) | exact HB.out)))); have n3_ := Aside0.mk (below_step (by repeat (first | (with_reducible first | exact HB.out | apply below_alloc | apply pw_below_drewN | apply below_drew1) | exact HB.out)) hb); clear HO_7; clear HO231; clear HB; have HO_7 := n0_; have HO231 := n1_; have HO234 := n2_; have HB := n3_; clear n0_ n1_ n2_ n3_; clear hb ho27; obtain ⟨Ao28, co28, eo28⟩ := Kd.R_slice HO234.out; subst eo28) | (go_at_call 26; (with_reducible refine (text_Places.calls k1 ((s6_.extract 0 (ji13 : Int).toNat) ++ s9_) _ _ y232 t235 _ ?side1 ?side2 A22.out).mono ?_); (case side1 => repeat (first | exact (Kd.R_reads' HO234.out).2.2 | (with_reducible refine Kd.C_alloc ?_ _) | (with_reducible refine Kd.C_drewN ?_ _) | (with_reducible refine Kd.C_drew ?_))); (case side2 => exact (Kd.R_reads' HO234.out).2.1); rintro e w29 ⟨v236, rfl, ho0, hb⟩; have n0_ := Aside0.mk (Kd.R_below (by (with_reducible repeat (first | apply Kd.R_alloc | apply Kd.R_drewN | apply Kd.R_drew)); exact HO_7.out) hb); have n1_ := Aside0.mk (Kd.R_elder' (by (with_reducible repeat (first | apply Kd.R_alloc | apply Kd.R_drewN | apply Kd.R_drew)); exact HO231.out) (Kd.R_base ho0) hb); have n2_ := Aside0.mk (Kd.R_below (by (with_reducible repeat (first | apply Kd.R_alloc | apply Kd.R_drewN | apply Kd.R_drew)); exact HO234.out) hb); have n3_ := Aside0.mk (Kd.R_lower (Kd.R_new' ho0 (Kd.R_lt (by (with_reducible repeat (first | apply Kd.R_alloc | apply Kd.R_drewN | apply Kd.R_drew)); exact HO231.out))) (below_size (by repeat (first | (with_reducible first | exact HB.out | apply below_alloc | apply pw_below_drewN | apply below_drew1) | exact HB.out)))); have n4_ := Aside0.mk (below_step (by repeat (first | (with_reducible first | exact HB.out | apply below_alloc | apply pw_below_drewN | apply below_drew1) | exact HB.out)) hb); clear HO_7; clear HO231; clear HO234; clear HB; have HO_7 := n0_; have HO231 := n1_; have HO234 := n2_; have HO237 := n3_; have HB := n4_; clear n0_ n1_ n2_ n3_ n4_; (try clear hb); (try clear hb2); (try clear hk); (try clear hi); (try clear ho0))))
                        (try simp only [Act.put, List.setIfInBounds_toArray, List.set_cons_zero, List.set_cons_succ])
                        go_cut [78] (fun v78 wc => ∃ (kq : Nat) (x78_22 : Bool), v78 = .bool x78_22 ∧ Aside0 (wisplaw02_TextRise.j1 kq s6_ t229 x78_22 = some r) ∧ Aside0 (kq ≤ k1) ∧ Aside0 (Kd.R k25 25 wc w.heap.size (fun _ => True) v230 t229) ∧ Aside0 (Below w.heap.size w wc))
                        case first =>
                          have H := HC23.out
                          clear HC23
                          by_cases c30 : (t229.length : Int) = (wrap64 ((s6_.size : Int) + 1))
                          · rw [if_pos c30] at H
                            have c30b0 : ((t229.length : Int) == (wrap64 ((s6_.size : Int) + 1))) = true := beq_iff_eq.mpr c30
                            have c30b1 : ((t229.length : Int) != (wrap64 ((s6_.size : Int) + 1))) = false := bne_eq_false_iff_eq.mpr c30
                            clear c30
                            (first | rw [c30b0] | (simp only [i64_w, i32_w]; rw [c30b0]) | skip)
                            by_cases c31 : (t235.length : Int) = 1
                            · rw [if_pos c31] at H
                              have c31b0 : ((t235.length : Int) == 1) = true := beq_iff_eq.mpr c31
                              have c31b1 : ((t235.length : Int) != 1) = false := bne_eq_false_iff_eq.mpr c31
                              clear c31
                              by_cases c32 : 0 < (t235.length : Int)
                              · rw [if_pos c32] at H
                                have c32b0 : decide (0 < (t235.length : Int)) = true := decide_eq_true c32
                                have c32b1 : decide (0 < t235.length) = true := decide_eq_true (by omega)
                                clear c32
                                by_cases c33 : ji13 < (t229.length : Int)
                                · rw [if_pos c33] at H
                                  have c33b0 : decide (ji13 < (t229.length : Int)) = true := decide_eq_true c33
                                  clear c33
                                  by_cases c34 : (!(((rd_T25 t235 0).f0) == ((rd_T25 t229 ji13).f0)) || (!(((rd_T25 t235 0).f1) == ((rd_T25 t229 ji13).f1)))) = true
                                  · rw [if_pos c34] at H
                                    have c34b0 : (!(((rd_T25 t235 0).f0) == ((rd_T25 t229 ji13).f0)) || (!(((rd_T25 t235 0).f1) == ((rd_T25 t229 ji13).f1)))) = true := c34
                                    clear c34
                                    have H' := Aside0.mk H
                                    clear H
                                    obtain ⟨Ao35, co35, eo35⟩ := Kd.R_slice HO231.out
                                    subst eo35
                                    obtain ⟨Ao36, co36, eo36⟩ := Kd.R_slice HO237.out
                                    subst eo36
                                    have p238 : 0 ≤ (0 : Int) := (by omega)
                                    have q238 : 0 < (t235.length : Int) := of_decide_eq_true (by first | (with_reducible assumption) | assumption)
                                    obtain ⟨ad238, e238, hx238_0, hx238_1⟩ := at_T25 (Kd.R_reads' HO237.out).2.2 0 p238 q238
                                    cases e238
                                    have qi238 : (0 < t235.length) = True := eq_true (by omega)
                                    (try rw [show ((0 : Int)).toNat = 0 from rfl] at hx238_0)
                                    (try rw [show 0 * 2 = 0 from rfl] at hx238_0)
                                    (try rw [Addr.add_zero'] at hx238_0)
                                    (try rw [show ((0 : Int)).toNat = 0 from rfl] at hx238_1)
                                    (try rw [show 0 * 2 = 0 from rfl] at hx238_1)
                                    (try rw [Addr.add_zero'] at hx238_1)
                                    replace p238 := eq_true p238
                                    replace q238 := eq_true q238
                                    have p239 : 0 ≤ (ji13 : Int) := of_decide_eq_true (by first | (with_reducible assumption) | assumption)
                                    have q239 : ji13 < (t229.length : Int) := of_decide_eq_true (by first | (with_reducible assumption) | assumption)
                                    obtain ⟨ad239, e239, hx239_0, hx239_1⟩ := at_T25 (Kd.R_reads' HO231.out).2.2 ji13 p239 q239
                                    cases e239
                                    replace p239 := eq_true p239
                                    replace q239 := eq_true q239
                                    go_wp2
                                    repeat (go_quiet (fail); try go_wp2)
                                    go_meet
                                    case rel => exact ⟨_, (true), (by first | rfl | (simp; done) | (simp [*]; done) | (simp [isEmpty_ne]; done)), H', ⟨by have := HK1.out; first | omega | exact Nat.le_refl _⟩, ⟨by (with_reducible repeat (first | apply Kd.R_alloc | apply Kd.R_drewN | apply Kd.R_drew)); exact Kd.R_mono HO231.out (fun _ hk => trivial)⟩, ⟨by repeat (first | (with_reducible first | exact HB.out | apply below_alloc | apply pw_below_drewN | apply below_drew1) | exact HB.out)⟩⟩
                                  · rw [if_neg c34] at H
                                    have c34b0 : (!(((rd_T25 t235 0).f0) == ((rd_T25 t229 ji13).f0)) || (!(((rd_T25 t235 0).f1) == ((rd_T25 t229 ji13).f1)))) = false := by simpa using c34
                                    clear c34
                                    by_cases c37 : 0 < (t229.length : Int)
                                    · rw [if_pos c37] at H
                                      have c37b0 : decide (0 < (t229.length : Int)) = true := decide_eq_true c37
                                      have c37b1 : decide (0 < t229.length) = true := decide_eq_true (by omega)
                                      clear c37
                                      have H' := Aside0.mk H
                                      clear H
                                      obtain ⟨Ao38, co38, eo38⟩ := Kd.R_slice HO231.out
                                      subst eo38
                                      obtain ⟨Ao39, co39, eo39⟩ := Kd.R_slice HO237.out
                                      subst eo39
                                      have p238 : 0 ≤ (0 : Int) := (by omega)
                                      have q238 : 0 < (t235.length : Int) := of_decide_eq_true (by first | (with_reducible assumption) | assumption)
                                      obtain ⟨ad238, e238, hx238_0, hx238_1⟩ := at_T25 (Kd.R_reads' HO237.out).2.2 0 p238 q238
                                      cases e238
                                      have qi238 : (0 < t235.length) = True := eq_true (by omega)
                                      (try rw [show ((0 : Int)).toNat = 0 from rfl] at hx238_0)
                                      (try rw [show 0 * 2 = 0 from rfl] at hx238_0)
                                      (try rw [Addr.add_zero'] at hx238_0)
                                      (try rw [show ((0 : Int)).toNat = 0 from rfl] at hx238_1)
                                      (try rw [show 0 * 2 = 0 from rfl] at hx238_1)
                                      (try rw [Addr.add_zero'] at hx238_1)
                                      replace p238 := eq_true p238
                                      replace q238 := eq_true q238
                                      have p239 : 0 ≤ (ji13 : Int) := of_decide_eq_true (by first | (with_reducible assumption) | assumption)
                                      have q239 : ji13 < (t229.length : Int) := of_decide_eq_true (by first | (with_reducible assumption) | assumption)
                                      obtain ⟨ad239, e239, hx239_0, hx239_1⟩ := at_T25 (Kd.R_reads' HO231.out).2.2 ji13 p239 q239
                                      cases e239
                                      replace p239 := eq_true p239
                                      replace q239 := eq_true q239
                                      have p240 : 0 ≤ (0 : Int) := (by omega)
                                      have q240 : 0 < (t229.length : Int) := of_decide_eq_true (by first | (with_reducible assumption) | assumption)
                                      obtain ⟨ad240, e240, hx240_0, hx240_1⟩ := at_T25 (Kd.R_reads' HO231.out).2.2 0 p240 q240
                                      obtain rfl : ad239 = ad240 := (by injection e240)
                                      have qi240 : (0 < t229.length) = True := eq_true (by omega)
                                      (try rw [show ((0 : Int)).toNat = 0 from rfl] at hx240_0)
                                      (try rw [show 0 * 2 = 0 from rfl] at hx240_0)
                                      (try rw [Addr.add_zero'] at hx240_0)
                                      (try rw [show ((0 : Int)).toNat = 0 from rfl] at hx240_1)
                                      (try rw [show 0 * 2 = 0 from rfl] at hx240_1)
                                      (try rw [Addr.add_zero'] at hx240_1)
                                      replace p240 := eq_true p240
                                      replace q240 := eq_true q240
                                      go_wp2
                                      repeat (go_quiet (fail); try go_wp2)
                                      go_meet
                                      case rel => exact ⟨_, ((!(((rd_T25 t229 0).f0) == 1) || (!(((rd_T25 t229 0).f1) == 1)))), (by first | rfl | (simp; done) | (simp [*]; done) | (simp [isEmpty_ne]; done)), H', ⟨by have := HK1.out; first | omega | exact Nat.le_refl _⟩, ⟨by (with_reducible repeat (first | apply Kd.R_alloc | apply Kd.R_drewN | apply Kd.R_drew)); exact Kd.R_mono HO231.out (fun _ hk => trivial)⟩, ⟨by repeat (first | (with_reducible first | exact HB.out | apply below_alloc | apply pw_below_drewN | apply below_drew1) | exact HB.out)⟩⟩
                                    · rw [if_neg c37] at H
                                      exact absurd H (by simp)
                                · rw [if_neg c33] at H
                                  exact absurd H (by simp)
                              · rw [if_neg c32] at H
                                exact absurd H (by simp)
                            · rw [if_neg c31] at H
                              have c31b0 : ((t235.length : Int) == 1) = false := beq_eq_false_iff_ne.mpr c31
                              have c31b1 : ((t235.length : Int) != 1) = true := bne_iff_ne.mpr c31
                              have H' := Aside0.mk H
                              clear H
                              obtain ⟨Ao40, co40, eo40⟩ := Kd.R_slice HO231.out
                              subst eo40
                              obtain ⟨Ao41, co41, eo41⟩ := Kd.R_slice HO237.out
                              subst eo41
                              go_wp2
                              repeat (go_quiet (fail); try go_wp2)
                              go_meet
                              case rel => exact ⟨_, (true), (by first | rfl | (simp; done) | (simp [*]; done) | (simp [isEmpty_ne]; done)), H', ⟨by have := HK1.out; first | omega | exact Nat.le_refl _⟩, ⟨by (with_reducible repeat (first | apply Kd.R_alloc | apply Kd.R_drewN | apply Kd.R_drew)); exact Kd.R_mono HO231.out (fun _ hk => trivial)⟩, ⟨by repeat (first | (with_reducible first | exact HB.out | apply below_alloc | apply pw_below_drewN | apply below_drew1) | exact HB.out)⟩⟩
                          · rw [if_neg c30] at H
                            have c30b0 : ((t229.length : Int) == (wrap64 ((s6_.size : Int) + 1))) = false := beq_eq_false_iff_ne.mpr c30
                            have c30b1 : ((t229.length : Int) != (wrap64 ((s6_.size : Int) + 1))) = true := bne_iff_ne.mpr c30
                            (first | rw [c30b0] | (simp only [i64_w, i32_w]; rw [c30b0]) | skip)
                            have H' := Aside0.mk H
                            clear H
                            obtain ⟨Ao42, co42, eo42⟩ := Kd.R_slice HO231.out
                            subst eo42
                            go_wp2
                            repeat (go_quiet (fail); try go_wp2)
                            go_meet
                            case rel => exact ⟨_, (true), (by first | rfl | (simp; done) | (simp [*]; done) | (simp [isEmpty_ne]; done)), H', ⟨by have := HK1.out; first | omega | exact Nat.le_refl _⟩, ⟨by (with_reducible repeat (first | apply Kd.R_alloc | apply Kd.R_drewN | apply Kd.R_drew)); exact Kd.R_mono HO231.out (fun _ hk => trivial)⟩, ⟨by repeat (first | (with_reducible first | exact HB.out | apply below_alloc | apply pw_below_drewN | apply below_drew1) | exact HB.out)⟩⟩
                        case rest =>
                          clear HC23
                          try clear c1
                          try clear c2
                          try clear p2
                          try clear q2
                          try clear hx2
                          try clear qi2
                          try clear c3
                          try clear c5
                          try clear p6
                          try clear c7
                          try clear c7b0
                          try clear c7b1
                          try clear c8
                          try clear c8b0
                          try clear c8b1
                          try clear c10
                          try clear c10b0
                          try clear c10b1
                          try clear c11
                          try clear c11b0
                          try clear c11b1
                          try clear c15
                          try clear c15b0
                          try clear c16
                          try clear c19
                          try clear c19b0
                          try clear c19b1
                          try clear c20
                          try clear c20b0
                          try clear c20b1
                          try clear c21
                          try clear c21b0
                          try clear c21b1
                          try clear c21b2
                          try clear p23
                          try clear q23
                          try clear hx23
                          try clear qi23
                          try clear p24
                          try clear q24
                          try clear hx24
                          try clear qi24
                          try clear c30
                          try clear c30b0
                          try clear c30b1
                          try clear c31
                          try clear c31b0
                          try clear c31b1
                          try clear c32
                          try clear c32b0
                          try clear c32b1
                          try clear c33
                          try clear c33b0
                          try clear c34
                          try clear c34b0
                          try clear c37
                          try clear c37b0
                          try clear c37b1
                          try clear hx238_0
                          try clear hx238_1
                          try clear hx239_0
                          try clear hx239_1
                          try clear hx240_0
                          try clear hx240_1
                          try clear p2
                          try clear p238
                          try clear p239
                          try clear p240
                          try clear q238
                          try clear q239
                          try clear q240
                          obtain ⟨kq, x78_22, rfl, HA, HJ22, HO_9, HB⟩ := hcut
                          cases kq with
                          | zero => exact absurd HA.out (by simp [wisplaw02_TextRise.j1])
                          | succ kj22 =>
                            have H := HA.out
                            clear HA
                            simp only [wisplaw02_TextRise.j1] at H
                            by_cases c43 : x78_22 = true
                            · subst c43
                              have H1 : (some false) = some r := by rw [if_pos rfl] at H; exact H
                              clear H
                              have H := H1
                              clear H1
                              obtain rfl := Option.some.inj H
                              go_wp2
                              repeat (go_quiet (fail); try go_wp2)
                              go_ret
                              exact ⟨by first | rfl | (simp [errW_none, errW_some] <;> rfl) | (simp only [← hji6, ← hji9, ← hji12, ← hji13]; first | rfl | (simp [errW_none, errW_some] <;> rfl)) | (simp [*, errW_none, errW_some] <;> rfl), by repeat (first | (with_reducible first | exact HB.out | apply below_alloc | apply pw_below_drewN | apply below_drew1) | exact HB.out)⟩
                            · replace c43 := Bool.eq_false_iff.mpr c43
                              subst c43
                              have H1 : (wisplaw02_TextRise.l1 kj22 s6_ t229 1) = some r := by rw [if_neg (show ¬ (false = true) by decide)] at H; exact H
                              clear H
                              have H := H1
                              clear H1
                              have H' := Aside0.mk H
                              clear H
                              go_wp2
                              repeat (go_quiet (fail); try go_wp2)
                              go_loopg [11] kj22 (fun kq v11 w' => ∃ (x11_3 : Int), v11 = .int .i64 x11_3 ∧ Aside0 (wisplaw02_TextRise.l1 kq s6_ t229 x11_3 = some r) ∧ Aside0 (kq ≤ kj22) ∧ Aside0 (Kd.R k25 25 w' w.heap.size (fun _ => True) v230 t229) ∧ Aside0 (Below w.heap.size w w'))
                              case atStart => exact ⟨(1), (by first | rfl | (simp; done) | (simp [*]; done) | (simp [isEmpty_ne]; done)), H', ⟨Nat.le_refl _⟩, ⟨by (with_reducible repeat (first | apply Kd.R_alloc | apply Kd.R_drewN | apply Kd.R_drew)); exact HO_9.out⟩, ⟨by repeat (first | (with_reducible first | exact HB.out | apply below_alloc | apply pw_below_drewN | apply below_drew1) | exact HB.out)⟩⟩
                              case round =>
                                clear H'
                                try clear c1
                                try clear c2
                                try clear p2
                                try clear q2
                                try clear hx2
                                try clear qi2
                                try clear c3
                                try clear c4
                                try clear c5
                                try clear p6
                                try clear c7
                                try clear c7b0
                                try clear c7b1
                                try clear c8
                                try clear c8b0
                                try clear c8b1
                                try clear c10
                                try clear c10b0
                                try clear c10b1
                                try clear c11
                                try clear c11b0
                                try clear c11b1
                                try clear c15
                                try clear c15b0
                                try clear c16
                                try clear c19
                                try clear c19b0
                                try clear c19b1
                                try clear c20
                                try clear c20b0
                                try clear c20b1
                                try clear c21
                                try clear c21b0
                                try clear c21b1
                                try clear c21b2
                                try clear p23
                                try clear q23
                                try clear hx23
                                try clear qi23
                                try clear p24
                                try clear q24
                                try clear hx24
                                try clear qi24
                                try clear c30
                                try clear c30b0
                                try clear c30b1
                                try clear c31
                                try clear c31b0
                                try clear c31b1
                                try clear c32
                                try clear c32b0
                                try clear c32b1
                                try clear c33
                                try clear c33b0
                                try clear c34
                                try clear c34b0
                                try clear c37
                                try clear c37b0
                                try clear c37b1
                                try clear c43
                                try clear hx238_0
                                try clear hx238_1
                                try clear hx239_0
                                try clear hx239_1
                                try clear hx240_0
                                try clear hx240_1
                                try clear p2
                                try clear p23
                                try clear p238
                                try clear p239
                                try clear p24
                                try clear p240
                                try clear p6
                                try clear q2
                                try clear q23
                                try clear q238
                                try clear q239
                                try clear q24
                                try clear q240
                                obtain ⟨x11_3, rfl, HA, HK3, HO_9, HB⟩ := hrel
                                cases gk with
                                | zero => exact absurd HA.out (by simp [wisplaw02_TextRise.l1])
                                | succ k3 =>
                                  have H := HA.out
                                  clear HA
                                  simp only [wisplaw02_TextRise.l1] at H
                                  by_cases c44 : x11_3 < (t229.length : Int)
                                  · rw [if_pos c44] at H
                                    have c44b0 : decide (x11_3 < (t229.length : Int)) = true := decide_eq_true c44
                                    clear c44
                                    obtain ⟨ji45, hji45⟩ : ∃ j_ : Int, (wrap64 (x11_3 - 1)) = j_ := ⟨_, rfl⟩
                                    replace H : (if 0 ≤ (ji45) then (if (ji45) < (s6_.size : Int) then (if (bt s6_ (ji45)) = 10 then (if 0 ≤ x11_3 then (if (ji45) < (t229.length : Int) then (if (!(((rd_T25 t229 x11_3).f0) == (wrap64 (((rd_T25 t229 (ji45)).f0) + 1))) || (!(((rd_T25 t229 x11_3).f1) == 1))) = true then (some false) else (wisplaw02_TextRise.l1 k3 s6_ t229 (wrap64 (x11_3 + 1)))) else (none)) else (none)) else (if 0 ≤ x11_3 then (if (ji45) < (t229.length : Int) then (if (!(((rd_T25 t229 x11_3).f0) == ((rd_T25 t229 (ji45)).f0)) || (!(((rd_T25 t229 x11_3).f1) == (wrap64 (((rd_T25 t229 (ji45)).f1) + 1))))) = true then (some false) else (wisplaw02_TextRise.l1 k3 s6_ t229 (wrap64 (x11_3 + 1)))) else (none)) else (none))) else (none)) else (none)) = some r := by first | (rw [hji45] at H; exact H) | (simp only [hji45] at H ⊢; exact H)
                                    have hji45w : (IntKind.i64.wrap (x11_3 - 1)) = ji45 := (i64_w _).trans hji45
                                    by_cases c46 : 0 ≤ (ji45)
                                    · rw [if_pos c46] at H
                                      have c46b0 : decide (0 ≤ (ji45)) = true := decide_eq_true c46
                                      clear c46
                                      by_cases c47 : (ji45) < (s6_.size : Int)
                                      · rw [if_pos c47] at H
                                        have c47b0 : decide ((ji45) < (s6_.size : Int)) = true := decide_eq_true c47
                                        clear c47
                                        by_cases c49 : (bt s6_ (ji45)) = 10
                                        · rw [if_pos c49] at H
                                          have c49b0 : ((bt s6_ (ji45)) == 10) = true := beq_iff_eq.mpr c49
                                          have c49b1 : ((bt s6_ (ji45)) != 10) = false := bne_eq_false_iff_eq.mpr c49
                                          clear c49
                                          by_cases c50 : 0 ≤ x11_3
                                          · rw [if_pos c50] at H
                                            have c50b0 : decide (0 ≤ x11_3) = true := decide_eq_true c50
                                            clear c50
                                            by_cases c51 : (ji45) < (t229.length : Int)
                                            · rw [if_pos c51] at H
                                              have c51b0 : decide ((ji45) < (t229.length : Int)) = true := decide_eq_true c51
                                              clear c51
                                              by_cases c52 : (!(((rd_T25 t229 x11_3).f0) == (wrap64 (((rd_T25 t229 (ji45)).f0) + 1))) || (!(((rd_T25 t229 x11_3).f1) == 1))) = true
                                              · rw [if_pos c52] at H
                                                have c52b0 : (!(((rd_T25 t229 x11_3).f0) == (wrap64 (((rd_T25 t229 (ji45)).f0) + 1))) || (!(((rd_T25 t229 x11_3).f1) == 1))) = true := c52
                                                clear c52
                                                obtain rfl := Option.some.inj H
                                                obtain ⟨Ao53, co53, eo53⟩ := Kd.R_slice HO_9.out
                                                subst eo53
                                                have p48 : 0 ≤ ((ji45) : Int) := of_decide_eq_true (by first | (with_reducible assumption) | assumption)
                                                have q48 : (ji45) < (s6_.size : Int) := of_decide_eq_true (by first | (with_reducible assumption) | assumption)
                                                have hx48 := bt_at s6_ (ji45)
                                                replace p48 := eq_true p48
                                                replace q48 := eq_true q48
                                                have p241 : 0 ≤ (x11_3 : Int) := of_decide_eq_true (by first | (with_reducible assumption) | assumption)
                                                have q241 : x11_3 < (t229.length : Int) := of_decide_eq_true (by first | (with_reducible assumption) | assumption)
                                                obtain ⟨ad241, e241, hx241_0, hx241_1⟩ := at_T25 (Kd.R_reads' HO_9.out).2.2 x11_3 p241 q241
                                                cases e241
                                                replace p241 := eq_true p241
                                                replace q241 := eq_true q241
                                                have p242 : 0 ≤ ((ji45) : Int) := of_decide_eq_true (by first | (with_reducible assumption) | assumption)
                                                have q242 : (ji45) < (t229.length : Int) := of_decide_eq_true (by first | (with_reducible assumption) | assumption)
                                                obtain ⟨ad242, e242, hx242_0, hx242_1⟩ := at_T25 (Kd.R_reads' HO_9.out).2.2 (ji45) p242 q242
                                                obtain rfl : ad241 = ad242 := (by injection e242)
                                                replace p242 := eq_true p242
                                                replace q242 := eq_true q242
                                                go_wp2
                                                repeat (go_quiet (fail); try go_wp2)
                                                go_ret
                                                exact ⟨by first | rfl | (simp [errW_none, errW_some] <;> rfl) | (simp only [← hji6, ← hji9, ← hji12, ← hji13, ← hji45]; first | rfl | (simp [errW_none, errW_some] <;> rfl)) | (simp [*, errW_none, errW_some] <;> rfl), by repeat (first | (with_reducible first | exact HB.out | apply below_alloc | apply pw_below_drewN | apply below_drew1) | exact HB.out)⟩
                                              · rw [if_neg c52] at H
                                                have c52b0 : (!(((rd_T25 t229 x11_3).f0) == (wrap64 (((rd_T25 t229 (ji45)).f0) + 1))) || (!(((rd_T25 t229 x11_3).f1) == 1))) = false := by simpa using c52
                                                clear c52
                                                have H' := Aside0.mk H
                                                clear H
                                                obtain ⟨Ao54, co54, eo54⟩ := Kd.R_slice HO_9.out
                                                subst eo54
                                                have p48 : 0 ≤ ((ji45) : Int) := of_decide_eq_true (by first | (with_reducible assumption) | assumption)
                                                have q48 : (ji45) < (s6_.size : Int) := of_decide_eq_true (by first | (with_reducible assumption) | assumption)
                                                have hx48 := bt_at s6_ (ji45)
                                                replace p48 := eq_true p48
                                                replace q48 := eq_true q48
                                                have p241 : 0 ≤ (x11_3 : Int) := of_decide_eq_true (by first | (with_reducible assumption) | assumption)
                                                have q241 : x11_3 < (t229.length : Int) := of_decide_eq_true (by first | (with_reducible assumption) | assumption)
                                                obtain ⟨ad241, e241, hx241_0, hx241_1⟩ := at_T25 (Kd.R_reads' HO_9.out).2.2 x11_3 p241 q241
                                                cases e241
                                                replace p241 := eq_true p241
                                                replace q241 := eq_true q241
                                                have p242 : 0 ≤ ((ji45) : Int) := of_decide_eq_true (by first | (with_reducible assumption) | assumption)
                                                have q242 : (ji45) < (t229.length : Int) := of_decide_eq_true (by first | (with_reducible assumption) | assumption)
                                                obtain ⟨ad242, e242, hx242_0, hx242_1⟩ := at_T25 (Kd.R_reads' HO_9.out).2.2 (ji45) p242 q242
                                                obtain rfl : ad241 = ad242 := (by injection e242)
                                                replace p242 := eq_true p242
                                                replace q242 := eq_true q242
                                                go_wp2
                                                repeat (go_quiet (fail); try go_wp2)
                                                go_roundg k3
                                                case measure => have := HK1.out; have := HJ22.out; have := HK3.out; omega
                                                case rel => exact ⟨(wrap64 (x11_3 + 1)), (by first | rfl | (simp; done) | (simp [*]; done) | (simp [isEmpty_ne]; done)), H', ⟨by have := HK1.out; have := HJ22.out; have := HK3.out; omega⟩, ⟨by (with_reducible repeat (first | apply Kd.R_alloc | apply Kd.R_drewN | apply Kd.R_drew)); exact HO_9.out⟩, ⟨by repeat (first | (with_reducible first | exact HB.out | apply below_alloc | apply pw_below_drewN | apply below_drew1) | exact HB.out)⟩⟩
                                            · rw [if_neg c51] at H
                                              exact absurd H (by simp)
                                          · rw [if_neg c50] at H
                                            exact absurd H (by simp)
                                        · rw [if_neg c49] at H
                                          have c49b0 : ((bt s6_ (ji45)) == 10) = false := beq_eq_false_iff_ne.mpr c49
                                          have c49b1 : ((bt s6_ (ji45)) != 10) = true := bne_iff_ne.mpr c49
                                          by_cases c55 : 0 ≤ x11_3
                                          · rw [if_pos c55] at H
                                            have c55b0 : decide (0 ≤ x11_3) = true := decide_eq_true c55
                                            clear c55
                                            by_cases c56 : (ji45) < (t229.length : Int)
                                            · rw [if_pos c56] at H
                                              have c56b0 : decide ((ji45) < (t229.length : Int)) = true := decide_eq_true c56
                                              clear c56
                                              by_cases c57 : (!(((rd_T25 t229 x11_3).f0) == ((rd_T25 t229 (ji45)).f0)) || (!(((rd_T25 t229 x11_3).f1) == (wrap64 (((rd_T25 t229 (ji45)).f1) + 1))))) = true
                                              · rw [if_pos c57] at H
                                                have c57b0 : (!(((rd_T25 t229 x11_3).f0) == ((rd_T25 t229 (ji45)).f0)) || (!(((rd_T25 t229 x11_3).f1) == (wrap64 (((rd_T25 t229 (ji45)).f1) + 1))))) = true := c57
                                                clear c57
                                                obtain rfl := Option.some.inj H
                                                obtain ⟨Ao58, co58, eo58⟩ := Kd.R_slice HO_9.out
                                                subst eo58
                                                have p48 : 0 ≤ ((ji45) : Int) := of_decide_eq_true (by first | (with_reducible assumption) | assumption)
                                                have q48 : (ji45) < (s6_.size : Int) := of_decide_eq_true (by first | (with_reducible assumption) | assumption)
                                                have hx48 := bt_at s6_ (ji45)
                                                replace p48 := eq_true p48
                                                replace q48 := eq_true q48
                                                have p243 : 0 ≤ (x11_3 : Int) := of_decide_eq_true (by first | (with_reducible assumption) | assumption)
                                                have q243 : x11_3 < (t229.length : Int) := of_decide_eq_true (by first | (with_reducible assumption) | assumption)
                                                obtain ⟨ad243, e243, hx243_0, hx243_1⟩ := at_T25 (Kd.R_reads' HO_9.out).2.2 x11_3 p243 q243
                                                cases e243
                                                replace p243 := eq_true p243
                                                replace q243 := eq_true q243
                                                have p244 : 0 ≤ ((ji45) : Int) := of_decide_eq_true (by first | (with_reducible assumption) | assumption)
                                                have q244 : (ji45) < (t229.length : Int) := of_decide_eq_true (by first | (with_reducible assumption) | assumption)
                                                obtain ⟨ad244, e244, hx244_0, hx244_1⟩ := at_T25 (Kd.R_reads' HO_9.out).2.2 (ji45) p244 q244
                                                obtain rfl : ad243 = ad244 := (by injection e244)
                                                replace p244 := eq_true p244
                                                replace q244 := eq_true q244
                                                have p245 : 0 ≤ ((ji45) : Int) := of_decide_eq_true (by first | (with_reducible assumption) | assumption)
                                                have q245 : (ji45) < (t229.length : Int) := of_decide_eq_true (by first | (with_reducible assumption) | assumption)
                                                obtain ⟨ad245, e245, hx245_0, hx245_1⟩ := at_T25 (Kd.R_reads' HO_9.out).2.2 (ji45) p245 q245
                                                obtain rfl : ad243 = ad245 := (by injection e245)
                                                replace p245 := eq_true p245
                                                replace q245 := eq_true q245
                                                go_wp2
                                                repeat (go_quiet (fail); try go_wp2)
                                                go_ret
                                                exact ⟨by first | rfl | (simp [errW_none, errW_some] <;> rfl) | (simp only [← hji6, ← hji9, ← hji12, ← hji13, ← hji45]; first | rfl | (simp [errW_none, errW_some] <;> rfl)) | (simp [*, errW_none, errW_some] <;> rfl), by repeat (first | (with_reducible first | exact HB.out | apply below_alloc | apply pw_below_drewN | apply below_drew1) | exact HB.out)⟩
                                              · rw [if_neg c57] at H
                                                have c57b0 : (!(((rd_T25 t229 x11_3).f0) == ((rd_T25 t229 (ji45)).f0)) || (!(((rd_T25 t229 x11_3).f1) == (wrap64 (((rd_T25 t229 (ji45)).f1) + 1))))) = false := by simpa using c57
                                                clear c57
                                                have H' := Aside0.mk H
                                                clear H
                                                obtain ⟨Ao59, co59, eo59⟩ := Kd.R_slice HO_9.out
                                                subst eo59
                                                have p48 : 0 ≤ ((ji45) : Int) := of_decide_eq_true (by first | (with_reducible assumption) | assumption)
                                                have q48 : (ji45) < (s6_.size : Int) := of_decide_eq_true (by first | (with_reducible assumption) | assumption)
                                                have hx48 := bt_at s6_ (ji45)
                                                replace p48 := eq_true p48
                                                replace q48 := eq_true q48
                                                have p243 : 0 ≤ (x11_3 : Int) := of_decide_eq_true (by first | (with_reducible assumption) | assumption)
                                                have q243 : x11_3 < (t229.length : Int) := of_decide_eq_true (by first | (with_reducible assumption) | assumption)
                                                obtain ⟨ad243, e243, hx243_0, hx243_1⟩ := at_T25 (Kd.R_reads' HO_9.out).2.2 x11_3 p243 q243
                                                cases e243
                                                replace p243 := eq_true p243
                                                replace q243 := eq_true q243
                                                have p244 : 0 ≤ ((ji45) : Int) := of_decide_eq_true (by first | (with_reducible assumption) | assumption)
                                                have q244 : (ji45) < (t229.length : Int) := of_decide_eq_true (by first | (with_reducible assumption) | assumption)
                                                obtain ⟨ad244, e244, hx244_0, hx244_1⟩ := at_T25 (Kd.R_reads' HO_9.out).2.2 (ji45) p244 q244
                                                obtain rfl : ad243 = ad244 := (by injection e244)
                                                replace p244 := eq_true p244
                                                replace q244 := eq_true q244
                                                have p245 : 0 ≤ ((ji45) : Int) := of_decide_eq_true (by first | (with_reducible assumption) | assumption)
                                                have q245 : (ji45) < (t229.length : Int) := of_decide_eq_true (by first | (with_reducible assumption) | assumption)
                                                obtain ⟨ad245, e245, hx245_0, hx245_1⟩ := at_T25 (Kd.R_reads' HO_9.out).2.2 (ji45) p245 q245
                                                obtain rfl : ad243 = ad245 := (by injection e245)
                                                replace p245 := eq_true p245
                                                replace q245 := eq_true q245
                                                go_wp2
                                                repeat (go_quiet (fail); try go_wp2)
                                                go_roundg k3
                                                case measure => have := HK1.out; have := HJ22.out; have := HK3.out; omega
                                                case rel => exact ⟨(wrap64 (x11_3 + 1)), (by first | rfl | (simp; done) | (simp [*]; done) | (simp [isEmpty_ne]; done)), H', ⟨by have := HK1.out; have := HJ22.out; have := HK3.out; omega⟩, ⟨by (with_reducible repeat (first | apply Kd.R_alloc | apply Kd.R_drewN | apply Kd.R_drew)); exact HO_9.out⟩, ⟨by repeat (first | (with_reducible first | exact HB.out | apply below_alloc | apply pw_below_drewN | apply below_drew1) | exact HB.out)⟩⟩
                                            · rw [if_neg c56] at H
                                              exact absurd H (by simp)
                                          · rw [if_neg c55] at H
                                            exact absurd H (by simp)
                                      · rw [if_neg c47] at H
                                        exact absurd H (by simp)
                                    · rw [if_neg c46] at H
                                      exact absurd H (by simp)
                                  · rw [if_neg c44] at H
                                    have c44b0 : decide (x11_3 < (t229.length : Int)) = false := decide_eq_false c44
                                    clear c44
                                    obtain rfl := Option.some.inj H
                                    obtain ⟨Ao60, co60, eo60⟩ := Kd.R_slice HO_9.out
                                    subst eo60
                                    go_wp2
                                    repeat (go_quiet (fail); try go_wp2)
                                    go_ret
                                    exact ⟨by first | rfl | (simp [errW_none, errW_some] <;> rfl) | (simp only [← hji6, ← hji9, ← hji12, ← hji13]; first | rfl | (simp [errW_none, errW_some] <;> rfl)) | (simp [*, errW_none, errW_some] <;> rfl), by repeat (first | (with_reducible first | exact HB.out | apply below_alloc | apply pw_below_drewN | apply below_drew1) | exact HB.out)⟩
                      · rw [if_neg c21] at H
                        exact absurd H (by simp)
                    · rw [if_neg c20] at H
                      exact absurd H (by simp)
                  · rw [if_neg c19] at H
                    exact absurd H (by simp)
          · rw [if_neg c11] at H
            exact absurd H (by simp)
        · rw [if_neg c10] at H
          exact absurd H (by simp)
      · rw [if_neg c8] at H
        exact absurd H (by simp)
    · rw [if_neg c7] at H
      exact absurd H (by simp)
  · replace c5 := Bool.eq_false_iff.mpr c5
    subst c5
    have H1 : (some false) = some r := by rw [if_neg (show ¬ (false = true) by decide)] at H; exact H
    clear H
    have H := H1
    clear H1
    obtain rfl := Option.some.inj H
    go_enter Try.func11, Try.ntmps11
    go_wp2_with (first | (go_at_call 23; (with_reducible refine (wisplaw02_fixed.calls k  false _ A4.out).mono ?_); rintro e w61 ⟨rfl, hb⟩; have n0_ := Aside0.mk (below_step (by repeat (first | (with_reducible first | exact HB.out | apply below_alloc | apply pw_below_drewN | apply below_drew1) | exact HB.out)) hb); clear HB; have HB := n0_; clear n0_; (try clear hb); (try clear hb2); (try clear hk); (try clear hi)))
    repeat (go_quiet (first | (go_at_call 23; (with_reducible refine (wisplaw02_fixed.calls k  false _ A4.out).mono ?_); rintro e w61 ⟨rfl, hb⟩; have n0_ := Aside0.mk (below_step (by repeat (first | (with_reducible first | exact HB.out | apply below_alloc | apply pw_below_drewN | apply below_drew1) | exact HB.out)) hb); clear HB; have HB := n0_; clear n0_; (try clear hb); (try clear hb2); (try clear hk); (try clear hi))); try go_wp2_with (first | (go_at_call 23; (with_reducible refine (wisplaw02_fixed.calls k  false _ A4.out).mono ?_); rintro e w61 ⟨rfl, hb⟩; have n0_ := Aside0.mk (below_step (by repeat (first | (with_reducible first | exact HB.out | apply below_alloc | apply pw_below_drewN | apply below_drew1) | exact HB.out)) hb); clear HB; have HB := n0_; clear n0_; (try clear hb); (try clear hb2); (try clear hk); (try clear hi))))
    go_ret
    exact ⟨by first | rfl | (simp [errW_none, errW_some] <;> rfl) | (simp [*, errW_none, errW_some] <;> rfl), by repeat (first | (with_reducible first | exact HB.out | apply below_alloc | apply pw_below_drewN | apply below_drew1) | exact HB.out)⟩

/-- THE ONE PURE STATEMENT of wisplaw02_TextRise: yours. -/
def wisplaw02_TextRise.Pure : Prop := ∀ (a0 : ByteArray) (a1 : ByteArray) (a2 : Int), a0.size ≤ 140737488351232 → a1.size ≤ 140737488351232 → (Lit.int .i64 a2).wf = true → ∃ k, wisplaw02_TextRise.f k a0 a1 a2 = some true
theorem wisplaw02_TextRise.walk (P : wisplaw02_TextRise.Pure) (a0 : ByteArray) (a1 : ByteArray) (a2 : Int) (w : World) (w0 : a0.size ≤ 140737488351232) (w1 : a1.size ≤ 140737488351232) (w2 : (Lit.int .i64 a2).wf = true) :
    Calls Try.prog 11 #[.string a0, .string a1, .int .i64 a2] w fun e w' => e = .returned (.bool true) ∧ Below w.heap.size w w' := by
  obtain ⟨k, h⟩ := P a0 a1 a2 w0 w1 w2
  refine (wisplaw02_TextRise.calls k a0 a1 a2 true w h).mono ?_
  rintro e w' ⟨rfl, hd⟩
  exact ⟨rfl, hd⟩

end Go.Proofs.Ytjphhnhloeanlaa.P
