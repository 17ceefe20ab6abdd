/- Printed by a program of this session (it turns the kit's print): see wip/myprint. -/
import Derived.Test.YtjphhnhloeanlaaPx0
import Derived.Test.YtjphhnhloeanlaaPx4
import Derived.Test.YtjphhnhloeanlaaPx5
import Derived.Test.YtjphhnhloeanlaaPx8
namespace Go.Proofs.Ytjphhnhloeanlaa.P
open Go.RowKit Go.Proofs.YtjphhnhloeanlaaW.PrintWords Go.Proofs.YtjphhnhloeanlaaW.PrintLast Go.Proofs.YtjphhnhloeanlaaW.PrintMore Go.Proofs.Ytjphhnhloeanlaa.Mine
attribute [local go_sem] max2_int min2_int max_two min_two max_three min_three max_four min_four   -- for this text's walks alone
set_option linter.unusedVariables false
set_option linter.unusedSimpArgs false

/-! ### wisplaw02_TextCells: function 9 -/
mutual
def wisplaw02_TextCells.j0 : Nat → Int → Int → ByteArray → ByteArray → Bool → Option (Bool)
  | 0, _, _, _, _, _ => none
  | k + 1, x0, x1, x5, x6, x31 => if x31 = true then (some false) else (wisplaw02_TextCells.l0 k x0 x1 x5 x6 (⟨#[]⟩ : ByteArray) 0)
def wisplaw02_TextCells.j2 : Nat → Int → ByteArray → ByteArray → ByteArray → Option (Bool)
  | 0, _, _, _, _ => none
  | k + 1, x0, x5, x6, x7 => (text_Decimal.f k (IntKind.u16.wrap (-x0))).bind fun t218 => ((wisplaw02_told.f k x5 x0 0).bind fun t219 => (if t219 = true then ((wisplaw02_told.f k x6 x0 0).bind fun t220 => (if t220 = true then (if x7.size + x5.size ≤ 9223372036854775807 then ((wisplaw02_told.f k (x7 ++ x5) x0 0).bind fun t221 => (if t221 = true then (if 1 + x7.size ≤ 9223372036854775807 then (if 1 ≤ (x6.size : Int) then (if ((⟨#[36]⟩ : ByteArray) ++ x7).size + (x6.extract 1 x6.size).size ≤ 9223372036854775807 then ((wisplaw02_told.f k (((⟨#[36]⟩ : ByteArray) ++ x7) ++ (x6.extract 1 x6.size)) x0 0).bind fun t222 => (wisplaw02_TextCells.j3 k x0 x7 t218 t222)) else (none)) else (none)) else (none)) else (wisplaw02_TextCells.j3 k x0 x7 t218 false))) else (none)) else (wisplaw02_TextCells.j3 k x0 x7 t218 false))) else (wisplaw02_TextCells.j3 k x0 x7 t218 false)))
def wisplaw02_TextCells.j3 : Nat → Int → ByteArray → ByteArray → Bool → Option (Bool)
  | 0, _, _, _, _ => none
  | k + 1, x0, x7, x9, x10 => if x0 ≥ 32768 then (wisplaw02_TextCells.j4 k x0 x7 x9 x10 true) else (wisplaw02_TextCells.j4 k x0 x7 x9 x10 (x0 == 0))
def wisplaw02_TextCells.j4 : Nat → Int → ByteArray → ByteArray → Bool → Bool → Option (Bool)
  | 0, _, _, _, _, _ => none
  | k + 1, x0, x7, x9, x10, x75 => if x75 = true then (if x10 = true then (if 1 + x7.size ≤ 9223372036854775807 then (if ((⟨#[45]⟩ : ByteArray) ++ x7).size + x9.size ≤ 9223372036854775807 then ((wisplaw02_told.f k (((⟨#[45]⟩ : ByteArray) ++ x7) ++ x9) x0 0).bind fun t223 => (some t223)) else (none)) else (none)) else (some false)) else (if x10 = true then (if 1 + x7.size ≤ 9223372036854775807 then (if ((⟨#[45]⟩ : ByteArray) ++ x7).size + x9.size ≤ 9223372036854775807 then ((wisplaw02_told.f k (((⟨#[45]⟩ : ByteArray) ++ x7) ++ x9) 0 21).bind fun t224 => (some t224)) else (none)) else (none)) else (some false))
def wisplaw02_TextCells.l0 : Nat → Int → Int → ByteArray → ByteArray → ByteArray → Int → Option (Bool)
  | 0, _, _, _, _, _, _ => none
  | k + 1, x0, x1, x5, x6, x7, x8 => if x8 < x1 then (if x8 < 100 then (if x7.size + 1 ≤ 9223372036854775807 then (wisplaw02_TextCells.l0 k x0 x1 x5 x6 (x7 ++ (⟨#[48]⟩ : ByteArray)) (wrap64 (x8 + 1))) else (none)) else (wisplaw02_TextCells.j2 k x0 x5 x6 x7)) else (wisplaw02_TextCells.j2 k x0 x5 x6 x7)
end
def wisplaw02_TextCells.f (k : Nat) (a0 : Int) (a1 : Int) : Option (Bool) := (wisplaw02_fixed.f k).bind fun t213 => (if t213 = true then ((text_Decimal.f k a0).bind fun t214 => ((text_Hex.f a0).bind fun t215 => ((wispref02_Decimal.f k a0).bind fun t216 => (if t214.toList = t216.toList then ((wispref02_Hex.f k a0).bind fun t217 => (if t215.toList = t217.toList then (wisplaw02_TextCells.j0 k a0 a1 t214 t215 ((t215.size : Int) != 5)) else (wisplaw02_TextCells.j0 k a0 a1 t214 t215 true))) else (wisplaw02_TextCells.j0 k a0 a1 t214 t215 true))))) else (some false))
theorem wisplaw02_TextCells.mono_l : ∀ k, (∀ y0 y1 y2 y3 y4, LeO (wisplaw02_TextCells.j0 k y0 y1 y2 y3 y4) (wisplaw02_TextCells.j0 (k + 1) y0 y1 y2 y3 y4)) ∧ (∀ y0 y1 y2 y3, LeO (wisplaw02_TextCells.j2 k y0 y1 y2 y3) (wisplaw02_TextCells.j2 (k + 1) y0 y1 y2 y3)) ∧ (∀ y0 y1 y2 y3, LeO (wisplaw02_TextCells.j3 k y0 y1 y2 y3) (wisplaw02_TextCells.j3 (k + 1) y0 y1 y2 y3)) ∧ (∀ y0 y1 y2 y3 y4, LeO (wisplaw02_TextCells.j4 k y0 y1 y2 y3 y4) (wisplaw02_TextCells.j4 (k + 1) y0 y1 y2 y3 y4)) ∧ (∀ y0 y1 y2 y3 y4 y5, LeO (wisplaw02_TextCells.l0 k y0 y1 y2 y3 y4 y5) (wisplaw02_TextCells.l0 (k + 1) y0 y1 y2 y3 y4 y5))
  | 0 => ⟨fun _ _ _ _ _ r h => by simp [wisplaw02_TextCells.j0] at h, fun _ _ _ _ r h => by simp [wisplaw02_TextCells.j2] at h, fun _ _ _ _ r h => by simp [wisplaw02_TextCells.j3] at h, fun _ _ _ _ _ r h => by simp [wisplaw02_TextCells.j4] at h, fun _ _ _ _ _ _ r h => by simp [wisplaw02_TextCells.l0] at h⟩
  | k + 1 => by
    obtain ⟨ih0, ih1, ih2, ih3, ih4⟩ := wisplaw02_TextCells.mono_l k
    refine ⟨?_, ?_, ?_, ?_, ?_⟩
    · intro y0 y1 y2 y3 y4
      unfold wisplaw02_TextCells.j0
      repeat' first
      | (with_reducible exact ih0 _ _ _ _ _)
      | (with_reducible exact ih1 _ _ _ _)
      | (with_reducible exact ih2 _ _ _ _)
      | (with_reducible exact ih3 _ _ _ _ _)
      | (with_reducible exact ih4 _ _ _ _ _ _)
      | (with_reducible exact text_Decimal.mono _ _)
      | (with_reducible exact wisplaw02_fixed.mono _)
      | (with_reducible exact wisplaw02_told.mono _ _ _ _)
      | (with_reducible exact wispref02_Decimal.mono _ _)
      | (with_reducible exact wispref02_Hex.mono _ _)
      | (with_reducible exact LeO.refl _)
      | (with_reducible exact LeO.none _)
      | (with_reducible refine LeO.ite ?_ ?_)
      | (with_reducible refine LeO.bind ?_ (fun _ => ?_))
      | exact ih0 _ _ _ _ _
      | exact ih1 _ _ _ _
      | exact ih2 _ _ _ _
      | exact ih3 _ _ _ _ _
      | exact ih4 _ _ _ _ _ _
      | exact text_Decimal.mono _ _
      | exact wisplaw02_fixed.mono _
      | exact wisplaw02_told.mono _ _ _ _
      | exact wispref02_Decimal.mono _ _
      | exact wispref02_Hex.mono _ _
      | exact LeO.none _
      | refine LeO.ite ?_ ?_
      | refine LeO.bind ?_ (fun _ => ?_)
    · intro y0 y1 y2 y3
      unfold wisplaw02_TextCells.j2
      repeat' first
      | (with_reducible exact ih0 _ _ _ _ _)
      | (with_reducible exact ih1 _ _ _ _)
      | (with_reducible exact ih2 _ _ _ _)
      | (with_reducible exact ih3 _ _ _ _ _)
      | (with_reducible exact ih4 _ _ _ _ _ _)
      | (with_reducible exact text_Decimal.mono _ _)
      | (with_reducible exact wisplaw02_fixed.mono _)
      | (with_reducible exact wisplaw02_told.mono _ _ _ _)
      | (with_reducible exact wispref02_Decimal.mono _ _)
      | (with_reducible exact wispref02_Hex.mono _ _)
      | (with_reducible exact LeO.refl _)
      | (with_reducible exact LeO.none _)
      | (with_reducible refine LeO.ite ?_ ?_)
      | (with_reducible refine LeO.bind ?_ (fun _ => ?_))
      | exact ih0 _ _ _ _ _
      | exact ih1 _ _ _ _
      | exact ih2 _ _ _ _
      | exact ih3 _ _ _ _ _
      | exact ih4 _ _ _ _ _ _
      | exact text_Decimal.mono _ _
      | exact wisplaw02_fixed.mono _
      | exact wisplaw02_told.mono _ _ _ _
      | exact wispref02_Decimal.mono _ _
      | exact wispref02_Hex.mono _ _
      | exact LeO.none _
      | refine LeO.ite ?_ ?_
      | refine LeO.bind ?_ (fun _ => ?_)
    · intro y0 y1 y2 y3
      unfold wisplaw02_TextCells.j3
      repeat' first
      | (with_reducible exact ih0 _ _ _ _ _)
      | (with_reducible exact ih1 _ _ _ _)
      | (with_reducible exact ih2 _ _ _ _)
      | (with_reducible exact ih3 _ _ _ _ _)
      | (with_reducible exact ih4 _ _ _ _ _ _)
      | (with_reducible exact text_Decimal.mono _ _)
      | (with_reducible exact wisplaw02_fixed.mono _)
      | (with_reducible exact wisplaw02_told.mono _ _ _ _)
      | (with_reducible exact wispref02_Decimal.mono _ _)
      | (with_reducible exact wispref02_Hex.mono _ _)
      | (with_reducible exact LeO.refl _)
      | (with_reducible exact LeO.none _)
      | (with_reducible refine LeO.ite ?_ ?_)
      | (with_reducible refine LeO.bind ?_ (fun _ => ?_))
      | exact ih0 _ _ _ _ _
      | exact ih1 _ _ _ _
      | exact ih2 _ _ _ _
      | exact ih3 _ _ _ _ _
      | exact ih4 _ _ _ _ _ _
      | exact text_Decimal.mono _ _
      | exact wisplaw02_fixed.mono _
      | exact wisplaw02_told.mono _ _ _ _
      | exact wispref02_Decimal.mono _ _
      | exact wispref02_Hex.mono _ _
      | exact LeO.none _
      | refine LeO.ite ?_ ?_
      | refine LeO.bind ?_ (fun _ => ?_)
    · intro y0 y1 y2 y3 y4
      unfold wisplaw02_TextCells.j4
      repeat' first
      | (with_reducible exact ih0 _ _ _ _ _)
      | (with_reducible exact ih1 _ _ _ _)
      | (with_reducible exact ih2 _ _ _ _)
      | (with_reducible exact ih3 _ _ _ _ _)
      | (with_reducible exact ih4 _ _ _ _ _ _)
      | (with_reducible exact text_Decimal.mono _ _)
      | (with_reducible exact wisplaw02_fixed.mono _)
      | (with_reducible exact wisplaw02_told.mono _ _ _ _)
      | (with_reducible exact wispref02_Decimal.mono _ _)
      | (with_reducible exact wispref02_Hex.mono _ _)
      | (with_reducible exact LeO.refl _)
      | (with_reducible exact LeO.none _)
      | (with_reducible refine LeO.ite ?_ ?_)
      | (with_reducible refine LeO.bind ?_ (fun _ => ?_))
      | exact ih0 _ _ _ _ _
      | exact ih1 _ _ _ _
      | exact ih2 _ _ _ _
      | exact ih3 _ _ _ _ _
      | exact ih4 _ _ _ _ _ _
      | exact text_Decimal.mono _ _
      | exact wisplaw02_fixed.mono _
      | exact wisplaw02_told.mono _ _ _ _
      | exact wispref02_Decimal.mono _ _
      | exact wispref02_Hex.mono _ _
      | exact LeO.none _
      | refine LeO.ite ?_ ?_
      | refine LeO.bind ?_ (fun _ => ?_)
    · intro y0 y1 y2 y3 y4 y5
      unfold wisplaw02_TextCells.l0
      repeat' first
      | (with_reducible exact ih0 _ _ _ _ _)
      | (with_reducible exact ih1 _ _ _ _)
      | (with_reducible exact ih2 _ _ _ _)
      | (with_reducible exact ih3 _ _ _ _ _)
      | (with_reducible exact ih4 _ _ _ _ _ _)
      | (with_reducible exact text_Decimal.mono _ _)
      | (with_reducible exact wisplaw02_fixed.mono _)
      | (with_reducible exact wisplaw02_told.mono _ _ _ _)
      | (with_reducible exact wispref02_Decimal.mono _ _)
      | (with_reducible exact wispref02_Hex.mono _ _)
      | (with_reducible exact LeO.refl _)
      | (with_reducible exact LeO.none _)
      | (with_reducible refine LeO.ite ?_ ?_)
      | (with_reducible refine LeO.bind ?_ (fun _ => ?_))
      | exact ih0 _ _ _ _ _
      | exact ih1 _ _ _ _
      | exact ih2 _ _ _ _
      | exact ih3 _ _ _ _ _
      | exact ih4 _ _ _ _ _ _
      | exact text_Decimal.mono _ _
      | exact wisplaw02_fixed.mono _
      | exact wisplaw02_told.mono _ _ _ _
      | exact wispref02_Decimal.mono _ _
      | exact wispref02_Hex.mono _ _
      | exact LeO.none _
      | refine LeO.ite ?_ ?_
      | refine LeO.bind ?_ (fun _ => ?_)
theorem wisplaw02_TextCells.mono : ∀ a0 a1 k, LeO (wisplaw02_TextCells.f k a0 a1) (wisplaw02_TextCells.f (k + 1) a0 a1) := by
  intro a0 a1 k
  obtain ⟨ih0, ih1, ih2, ih3, ih4⟩ := wisplaw02_TextCells.mono_l k
  unfold wisplaw02_TextCells.f
  repeat' first
      | (with_reducible exact ih0 _ _ _ _ _)
      | (with_reducible exact ih1 _ _ _ _)
      | (with_reducible exact ih2 _ _ _ _)
      | (with_reducible exact ih3 _ _ _ _ _)
      | (with_reducible exact ih4 _ _ _ _ _ _)
      | (with_reducible exact text_Decimal.mono _ _)
      | (with_reducible exact wisplaw02_fixed.mono _)
      | (with_reducible exact wisplaw02_told.mono _ _ _ _)
      | (with_reducible exact wispref02_Decimal.mono _ _)
      | (with_reducible exact wispref02_Hex.mono _ _)
      | (with_reducible exact LeO.refl _)
      | (with_reducible exact LeO.none _)
      | (with_reducible refine LeO.ite ?_ ?_)
      | (with_reducible refine LeO.bind ?_ (fun _ => ?_))
      | exact ih0 _ _ _ _ _
      | exact ih1 _ _ _ _
      | exact ih2 _ _ _ _
      | exact ih3 _ _ _ _ _
      | exact ih4 _ _ _ _ _ _
      | exact text_Decimal.mono _ _
      | exact wisplaw02_fixed.mono _
      | exact wisplaw02_told.mono _ _ _ _
      | exact wispref02_Decimal.mono _ _
      | exact wispref02_Hex.mono _ _
      | exact LeO.none _
      | refine LeO.ite ?_ ?_
      | refine LeO.bind ?_ (fun _ => ?_)
set_option maxHeartbeats 8000000 in
set_option maxRecDepth 100000 in
theorem wisplaw02_TextCells.calls (k : Nat) (a0 : Int) (a1 : Int) (r : Bool) (w : World) (h : wisplaw02_TextCells.f k a0 a1 = some r) :
    Calls Try.prog 9 #[.int .u16 a0, .int .i64 a1] w fun e w' => e = .returned (.bool r) ∧ Below w.heap.size w w' := by
  have HB := Aside0.mk (Below.refl w.heap.size w)
  have H : ((wisplaw02_fixed.f k).bind fun t213 => (if t213 = true then ((text_Decimal.f k a0).bind fun t214 => ((text_Hex.f a0).bind fun t215 => ((wispref02_Decimal.f k a0).bind fun t216 => (if t214.toList = t216.toList then ((wispref02_Hex.f k a0).bind fun t217 => (if t215.toList = t217.toList then (wisplaw02_TextCells.j0 k a0 a1 t214 t215 ((t215.size : Int) != 5)) else (wisplaw02_TextCells.j0 k a0 a1 t214 t215 true))) else (wisplaw02_TextCells.j0 k a0 a1 t214 t215 true))))) else (some false))) = some r := h
  clear h
  replace H := Option.bind_eq_some_iff.mp H
  obtain ⟨t213, A30, H⟩ := H
  replace H : (if t213 = true then ((text_Decimal.f k a0).bind fun t214 => ((text_Hex.f a0).bind fun t215 => ((wispref02_Decimal.f k a0).bind fun t216 => (if t214.toList = t216.toList then ((wispref02_Hex.f k a0).bind fun t217 => (if t215.toList = t217.toList then (wisplaw02_TextCells.j0 k a0 a1 t214 t215 ((t215.size : Int) != 5)) else (wisplaw02_TextCells.j0 k a0 a1 t214 t215 true))) else (wisplaw02_TextCells.j0 k a0 a1 t214 t215 true))))) else (some false)) = some r := H
  have A3 := Aside0.mk A30
  clear A30
  by_cases c4 : t213 = true
  · subst c4
    have H1 : ((text_Decimal.f k a0).bind fun t214 => ((text_Hex.f a0).bind fun t215 => ((wispref02_Decimal.f k a0).bind fun t216 => (if t214.toList = t216.toList then ((wispref02_Hex.f k a0).bind fun t217 => (if t215.toList = t217.toList then (wisplaw02_TextCells.j0 k a0 a1 t214 t215 ((t215.size : Int) != 5)) else (wisplaw02_TextCells.j0 k a0 a1 t214 t215 true))) else (wisplaw02_TextCells.j0 k a0 a1 t214 t215 true))))) = some r := by rw [if_pos rfl] at H; exact H
    clear H
    have H := H1
    clear H1
    replace H := Option.bind_eq_some_iff.mp H
    obtain ⟨t214, A50, H⟩ := H
    replace H : ((text_Hex.f a0).bind fun t215 => ((wispref02_Decimal.f k a0).bind fun t216 => (if t214.toList = t216.toList then ((wispref02_Hex.f k a0).bind fun t217 => (if t215.toList = t217.toList then (wisplaw02_TextCells.j0 k a0 a1 t214 t215 ((t215.size : Int) != 5)) else (wisplaw02_TextCells.j0 k a0 a1 t214 t215 true))) else (wisplaw02_TextCells.j0 k a0 a1 t214 t215 true)))) = some r := H
    have A5 := Aside0.mk A50
    clear A50
    replace H := Option.bind_eq_some_iff.mp H
    obtain ⟨t215, A60, H⟩ := H
    replace H : ((wispref02_Decimal.f k a0).bind fun t216 => (if t214.toList = t216.toList then ((wispref02_Hex.f k a0).bind fun t217 => (if t215.toList = t217.toList then (wisplaw02_TextCells.j0 k a0 a1 t214 t215 ((t215.size : Int) != 5)) else (wisplaw02_TextCells.j0 k a0 a1 t214 t215 true))) else (wisplaw02_TextCells.j0 k a0 a1 t214 t215 true))) = some r := H
    have A6 := Aside0.mk A60
    clear A60
    have HC7 := Aside0.mk H
    clear H
    go_enter Try.func9, Try.ntmps9
    go_upto_region 4 with (first | ((with_reducible refine gate_callee (f := 23) rfl ?_); refine goesL_ (some 11) rfl rfl Try.func23 (by kernel_rfl) rfl #[] rfl (by (try simp only [List.map_toArray, List.map_cons, List.map_nil]); first | done | rfl | (simp only [List.length_drop, List.length_take]; rfl)) ?_; (with_reducible refine (wisplaw02_fixed.calls k  true _ A3.out).mono ?_); rintro e w8 ⟨rfl, hb⟩; refine ⟨_, rfl, ?_⟩; have n0_ := Aside0.mk (below_step (by repeat (first | (with_reducible first | exact HB.out | apply below_alloc | apply pw_below_drewN | apply below_drew1) | exact HB.out)) hb); clear HB; have HB := n0_; clear n0_; (try clear hb); (try clear hb2); (try clear hk); (try clear hi)) | ((with_reducible refine gate_callee (f := 27) rfl ?_); refine goesL_ (some 14) rfl rfl Try.func27 (by kernel_rfl) rfl #[.int .u16 a0] rfl (by (try simp only [List.map_toArray, List.map_cons, List.map_nil]); first | done | rfl | (simp only [List.length_drop, List.length_take]; rfl)) ?_; (with_reducible refine (text_Decimal.calls k a0 t214 _ A5.out).mono ?_); rintro e w9 ⟨rfl, hb⟩; refine ⟨_, rfl, ?_⟩; have n0_ := Aside0.mk (below_step (by repeat (first | (with_reducible first | exact HB.out | apply below_alloc | apply pw_below_drewN | apply below_drew1) | exact HB.out)) hb); clear HB; have HB := n0_; clear n0_; (try clear hb); (try clear hb2); (try clear hk); (try clear hi)) | ((with_reducible refine gate_callee (f := 28) rfl ?_); refine goesL_ (some 16) rfl rfl Try.func28 (by kernel_rfl) rfl #[.int .u16 a0] rfl (by (try simp only [List.map_toArray, List.map_cons, List.map_nil]); first | done | rfl | (simp only [List.length_drop, List.length_take]; rfl)) ?_; (with_reducible refine (text_Hex.calls a0 t215 _ A6.out).mono ?_); rintro e w10 ⟨rfl, hb⟩; refine ⟨_, rfl, ?_⟩; have n0_ := Aside0.mk (below_step (by repeat (first | (with_reducible first | exact HB.out | apply below_alloc | apply pw_below_drewN | apply below_drew1) | exact HB.out)) hb); clear HB; have HB := n0_; clear n0_; (try clear hb); (try clear hb2); (try clear hk); (try clear hi)))
    (try simp only [Act.put, List.setIfInBounds_toArray, List.set_cons_zero, List.set_cons_succ])
    go_cut [31] (fun v31 wc => ∃ (kq : Nat) (x31_6 : Bool), v31 = .bool x31_6 ∧ Aside0 (wisplaw02_TextCells.j0 kq a0 a1 t214 t215 x31_6 = some r) ∧ Aside0 (kq ≤ k) ∧ Aside0 (Below w.heap.size w wc))
    case first =>
      have H := HC7.out
      clear HC7
      replace H := Option.bind_eq_some_iff.mp H
      obtain ⟨t216, A110, H⟩ := H
      replace H : (if t214.toList = t216.toList then ((wispref02_Hex.f k a0).bind fun t217 => (if t215.toList = t217.toList then (wisplaw02_TextCells.j0 k a0 a1 t214 t215 ((t215.size : Int) != 5)) else (wisplaw02_TextCells.j0 k a0 a1 t214 t215 true))) else (wisplaw02_TextCells.j0 k a0 a1 t214 t215 true)) = some r := H
      have A11 := Aside0.mk A110
      clear A110
      by_cases c12 : t214.toList = t216.toList
      · rw [if_pos c12] at H
        have c12b0 : (t214.toList == t216.toList) = true := beq_iff_eq.mpr c12
        have c12b1 : (t214.toList != t216.toList) = false := bne_eq_false_iff_eq.mpr c12
        clear c12
        (first | rw [c12b0] | (simp only [i64_w, i32_w]; rw [c12b0]) | skip)
        replace H := Option.bind_eq_some_iff.mp H
        obtain ⟨t217, A130, H⟩ := H
        replace H : (if t215.toList = t217.toList then (wisplaw02_TextCells.j0 k a0 a1 t214 t215 ((t215.size : Int) != 5)) else (wisplaw02_TextCells.j0 k a0 a1 t214 t215 true)) = some r := H
        have A13 := Aside0.mk A130
        clear A130
        by_cases c14 : t215.toList = t217.toList
        · rw [if_pos c14] at H
          have c14b0 : (t215.toList == t217.toList) = true := beq_iff_eq.mpr c14
          have c14b1 : (t215.toList != t217.toList) = false := bne_eq_false_iff_eq.mpr c14
          clear c14
          have H' := Aside0.mk H
          clear H
          go_wp2_with (first | ((with_reducible refine gate_callee (f := 33) rfl ?_); refine goesL_ (some 19) rfl rfl Try.func33 (by kernel_rfl) rfl #[.int .u16 a0] rfl (by (try simp only [List.map_toArray, List.map_cons, List.map_nil]); first | done | rfl | (simp only [List.length_drop, List.length_take]; rfl)) ?_; (with_reducible refine (wispref02_Decimal.calls k a0 t216 _ A11.out).mono ?_); rintro e w' ⟨rfl, ⟨nd, rfl⟩⟩; refine ⟨_, rfl, ?_⟩) | (go_at_call 34; (with_reducible refine (wispref02_Hex.calls k a0 t217 _ A13.out).mono ?_); rintro e w' ⟨rfl, ⟨nd, rfl⟩⟩))
          go_meet
          case rel => exact ⟨_, (((t215.size : Int) != 5)), (by first | rfl | (simp; done) | (simp [*]; done) | (simp [isEmpty_ne]; done)), H', ⟨by first | omega | exact Nat.le_refl _⟩, ⟨by repeat (first | (with_reducible first | exact HB.out | apply below_alloc | apply pw_below_drewN | apply below_drew1) | exact HB.out)⟩⟩
        · rw [if_neg c14] at H
          have c14b0 : (t215.toList == t217.toList) = false := beq_eq_false_iff_ne.mpr c14
          have c14b1 : (t215.toList != t217.toList) = true := bne_iff_ne.mpr c14
          have H' := Aside0.mk H
          clear H
          go_wp2_with (first | ((with_reducible refine gate_callee (f := 33) rfl ?_); refine goesL_ (some 19) rfl rfl Try.func33 (by kernel_rfl) rfl #[.int .u16 a0] rfl (by (try simp only [List.map_toArray, List.map_cons, List.map_nil]); first | done | rfl | (simp only [List.length_drop, List.length_take]; rfl)) ?_; (with_reducible refine (wispref02_Decimal.calls k a0 t216 _ A11.out).mono ?_); rintro e w' ⟨rfl, ⟨nd, rfl⟩⟩; refine ⟨_, rfl, ?_⟩) | (go_at_call 34; (with_reducible refine (wispref02_Hex.calls k a0 t217 _ A13.out).mono ?_); rintro e w' ⟨rfl, ⟨nd, rfl⟩⟩))
          go_meet
          case rel => exact ⟨_, (true), (by first | rfl | (simp; done) | (simp [*]; done) | (simp [isEmpty_ne]; done)), H', ⟨by first | omega | exact Nat.le_refl _⟩, ⟨by repeat (first | (with_reducible first | exact HB.out | apply below_alloc | apply pw_below_drewN | apply below_drew1) | exact HB.out)⟩⟩
      · rw [if_neg c12] at H
        have c12b0 : (t214.toList == t216.toList) = false := beq_eq_false_iff_ne.mpr c12
        have c12b1 : (t214.toList != t216.toList) = true := bne_iff_ne.mpr c12
        (first | rw [c12b0] | (simp only [i64_w, i32_w]; rw [c12b0]) | skip)
        have H' := Aside0.mk H
        clear H
        go_wp2_with (first | ((with_reducible refine gate_callee (f := 33) rfl ?_); refine goesL_ (some 19) rfl rfl Try.func33 (by kernel_rfl) rfl #[.int .u16 a0] rfl (by (try simp only [List.map_toArray, List.map_cons, List.map_nil]); first | done | rfl | (simp only [List.length_drop, List.length_take]; rfl)) ?_; (with_reducible refine (wispref02_Decimal.calls k a0 t216 _ A11.out).mono ?_); rintro e w' ⟨rfl, ⟨nd, rfl⟩⟩; refine ⟨_, rfl, ?_⟩))
        go_meet
        case rel => exact ⟨_, (true), (by first | rfl | (simp; done) | (simp [*]; done) | (simp [isEmpty_ne]; done)), H', ⟨by first | omega | exact Nat.le_refl _⟩, ⟨by repeat (first | (with_reducible first | exact HB.out | apply below_alloc | apply pw_below_drewN | apply below_drew1) | exact HB.out)⟩⟩
    case rest =>
      clear HC7
      try clear c1
      try clear c2
      try clear p2
      try clear c3
      try clear c4
      try clear c9
      try clear c12
      try clear c12b0
      try clear c12b1
      try clear c14
      try clear c14b0
      try clear c14b1
      obtain ⟨kq, x31_6, rfl, HA, HJ6, HB⟩ := hcut
      cases kq with
      | zero => exact absurd HA.out (by simp [wisplaw02_TextCells.j0])
      | succ kj6 =>
        have H := HA.out
        clear HA
        simp only [wisplaw02_TextCells.j0] at H
        by_cases c15 : x31_6 = true
        · subst c15
          have H1 : (some false) = some r := by rw [if_pos rfl] at H; exact H
          clear H
          have H := H1
          clear H1
          obtain rfl := Option.some.inj H
          go_wp2
          go_ret
          exact ⟨by first | rfl | (simp [errW_none, errW_some] <;> rfl) | (simp [*, errW_none, errW_some] <;> rfl), by repeat (first | (with_reducible first | exact HB.out | apply below_alloc | apply pw_below_drewN | apply below_drew1) | exact HB.out)⟩
        · replace c15 := Bool.eq_false_iff.mpr c15
          subst c15
          have H1 : (wisplaw02_TextCells.l0 kj6 a0 a1 t214 t215 (⟨#[]⟩ : ByteArray) 0) = some r := by rw [if_neg (show ¬ (false = true) by decide)] at H; exact H
          clear H
          have H := H1
          clear H1
          have HC16 := Aside0.mk H
          clear H
          go_upto_block 0 with (fail)
          go_cut [7] (fun v7 wc => ∃ (kq : Nat) (x7_15 : ByteArray), v7 = .string x7_15 ∧ Aside0 (wisplaw02_TextCells.j2 kq a0 t214 t215 x7_15 = some r) ∧ Aside0 (kq ≤ kj6) ∧ Aside0 (Below w.heap.size w wc))
          case first =>
            have H := HC16.out
            clear HC16
            have H' := Aside0.mk H
            clear H
            go_wp2
            go_loopg [7, 8] kj6 (fun kq v7 v8 w' => ∃ (x7_2 : ByteArray) (x8_2 : Int), v7 = .string x7_2 ∧ v8 = .int .i64 x8_2 ∧ Aside0 (wisplaw02_TextCells.l0 kq a0 a1 t214 t215 x7_2 x8_2 = some r) ∧ Aside0 (kq ≤ kj6) ∧ Aside0 (Below w.heap.size w w'))
            case atStart => exact ⟨((⟨#[]⟩ : ByteArray)), (0), (by first | rfl | (simp; done) | (simp [*]; done) | (simp [isEmpty_ne]; done)), (by first | rfl | (simp; done) | (simp [*]; done) | (simp [isEmpty_ne]; done)), H', ⟨Nat.le_refl _⟩, ⟨by repeat (first | (with_reducible first | exact HB.out | apply below_alloc | apply pw_below_drewN | apply below_drew1) | exact HB.out)⟩⟩
            case round =>
              clear H'
              try clear c1
              try clear c2
              try clear p2
              try clear c3
              try clear c4
              try clear c9
              try clear c12
              try clear c12b0
              try clear c12b1
              try clear c14
              try clear c14b0
              try clear c14b1
              try clear c15
              try clear p2
              obtain ⟨x7_2, x8_2, rfl, rfl, HA, HK2, HB⟩ := hrel
              cases gk with
              | zero => exact absurd HA.out (by simp [wisplaw02_TextCells.l0])
              | succ k2 =>
                have H := HA.out
                clear HA
                simp only [wisplaw02_TextCells.l0] at H
                by_cases c17 : x8_2 < a1
                · rw [if_pos c17] at H
                  have c17b0 : decide (x8_2 < a1) = true := decide_eq_true c17
                  clear c17
                  (first | rw [c17b0] | (simp only [i64_w, i32_w]; rw [c17b0]) | skip)
                  by_cases c18 : x8_2 < 100
                  · rw [if_pos c18] at H
                    have c18b0 : decide (x8_2 < 100) = true := decide_eq_true c18
                    clear c18
                    by_cases c19 : x7_2.size + 1 ≤ 9223372036854775807
                    · rw [if_pos c19] at H
                      have c19b0 := eq_true c19
                      have c19b1 : decide (x7_2.size + 1 ≤ 9223372036854775807) = true := decide_eq_true c19
                      try have c19b2 : (9223372036854775807 < x7_2.size + 1) = False := eq_false (Nat.not_lt.2 c19)
                      have H' := Aside0.mk H
                      clear H
                      go_wp2
                      go_roundg k2
                      case measure => have := HJ6.out; have := HK2.out; omega
                      case rel => exact ⟨(x7_2 ++ (⟨#[48]⟩ : ByteArray)), (wrap64 (x8_2 + 1)), (by first | rfl | (simp; done) | (simp [*]; done) | (simp [isEmpty_ne]; done)), (by first | rfl | (simp; done) | (simp [*]; done) | (simp [isEmpty_ne]; done)), H', ⟨by have := HJ6.out; have := HK2.out; omega⟩, ⟨by repeat (first | (with_reducible first | exact HB.out | apply below_alloc | apply pw_below_drewN | apply below_drew1) | exact HB.out)⟩⟩
                    · rw [if_neg c19] at H
                      exact absurd H (by simp)
                  · rw [if_neg c18] at H
                    have c18b0 : decide (x8_2 < 100) = false := decide_eq_false c18
                    clear c18
                    have H' := Aside0.mk H
                    clear H
                    go_wp2
                    go_meet
                    case rel => exact ⟨_, (x7_2), (by first | rfl | (simp; done) | (simp [*]; done) | (simp [isEmpty_ne]; done)), H', ⟨by have := HJ6.out; have := HK2.out; first | omega | exact Nat.le_refl _⟩, ⟨by repeat (first | (with_reducible first | exact HB.out | apply below_alloc | apply pw_below_drewN | apply below_drew1) | exact HB.out)⟩⟩
                · rw [if_neg c17] at H
                  have c17b0 : decide (x8_2 < a1) = false := decide_eq_false c17
                  clear c17
                  (first | rw [c17b0] | (simp only [i64_w, i32_w]; rw [c17b0]) | skip)
                  have H' := Aside0.mk H
                  clear H
                  go_wp2
                  go_meet
                  case rel => exact ⟨_, (x7_2), (by first | rfl | (simp; done) | (simp [*]; done) | (simp [isEmpty_ne]; done)), H', ⟨by have := HJ6.out; have := HK2.out; first | omega | exact Nat.le_refl _⟩, ⟨by repeat (first | (with_reducible first | exact HB.out | apply below_alloc | apply pw_below_drewN | apply below_drew1) | exact HB.out)⟩⟩
          case rest =>
            clear HC16
            try clear c1
            try clear c2
            try clear p2
            try clear c3
            try clear c4
            try clear p6
            try clear c9
            try clear c12
            try clear c12b0
            try clear c12b1
            try clear c14
            try clear c14b0
            try clear c14b1
            try clear c15
            try clear c17
            try clear c17b0
            try clear c18
            try clear c18b0
            try clear c19
            try clear c19b0
            try clear c19b1
            try clear c19b2
            try clear p2
            obtain ⟨kq, x7_15, rfl, HA, HJ15, HB⟩ := hcut
            cases kq with
            | zero => exact absurd HA.out (by simp [wisplaw02_TextCells.j2])
            | succ kj15 =>
              have H := HA.out
              clear HA
              simp only [wisplaw02_TextCells.j2] at H
              replace H := Option.bind_eq_some_iff.mp H
              obtain ⟨t218, A200, H⟩ := H
              replace H : ((wisplaw02_told.f kj15 t214 a0 0).bind fun t219 => (if t219 = true then ((wisplaw02_told.f kj15 t215 a0 0).bind fun t220 => (if t220 = true then (if x7_15.size + t214.size ≤ 9223372036854775807 then ((wisplaw02_told.f kj15 (x7_15 ++ t214) a0 0).bind fun t221 => (if t221 = true then (if 1 + x7_15.size ≤ 9223372036854775807 then (if 1 ≤ (t215.size : Int) then (if ((⟨#[36]⟩ : ByteArray) ++ x7_15).size + (t215.extract 1 t215.size).size ≤ 9223372036854775807 then ((wisplaw02_told.f kj15 (((⟨#[36]⟩ : ByteArray) ++ x7_15) ++ (t215.extract 1 t215.size)) a0 0).bind fun t222 => (wisplaw02_TextCells.j3 kj15 a0 x7_15 t218 t222)) else (none)) else (none)) else (none)) else (wisplaw02_TextCells.j3 kj15 a0 x7_15 t218 false))) else (none)) else (wisplaw02_TextCells.j3 kj15 a0 x7_15 t218 false))) else (wisplaw02_TextCells.j3 kj15 a0 x7_15 t218 false))) = some r := H
              have A20 := Aside0.mk A200
              clear A200
              have HC21 := Aside0.mk H
              clear H
              go_upto_region 12 with (first | ((with_reducible refine gate_callee (f := 27) rfl ?_); refine goesL_ (some 45) rfl rfl Try.func27 (by kernel_rfl) rfl #[.int .u16 (IntKind.u16.wrap (-a0))] rfl (by (try simp only [List.map_toArray, List.map_cons, List.map_nil]); first | done | rfl | (simp only [List.length_drop, List.length_take]; rfl)) ?_; (with_reducible refine (text_Decimal.calls kj15 (IntKind.u16.wrap (-a0)) t218 _ A20.out).mono ?_); rintro e w22 ⟨rfl, hb⟩; refine ⟨_, rfl, ?_⟩; have n0_ := Aside0.mk (below_step (by repeat (first | (with_reducible first | exact HB.out | apply below_alloc | apply pw_below_drewN | apply below_drew1) | exact HB.out)) hb); clear HB; have HB := n0_; clear n0_; (try clear hb); (try clear hb2); (try clear hk); (try clear hi)))
              (try simp only [Act.put, List.setIfInBounds_toArray, List.set_cons_zero, List.set_cons_succ])
              go_cut [10] (fun v10 wc => ∃ (kq : Nat) (x10_20 : Bool), v10 = .bool x10_20 ∧ Aside0 (wisplaw02_TextCells.j3 kq a0 x7_15 t218 x10_20 = some r) ∧ Aside0 (kq ≤ kj15) ∧ Aside0 (Below w.heap.size w wc))
              case first =>
                have H := HC21.out
                clear HC21
                replace H := Option.bind_eq_some_iff.mp H
                obtain ⟨t219, A230, H⟩ := H
                replace H : (if t219 = true then ((wisplaw02_told.f kj15 t215 a0 0).bind fun t220 => (if t220 = true then (if x7_15.size + t214.size ≤ 9223372036854775807 then ((wisplaw02_told.f kj15 (x7_15 ++ t214) a0 0).bind fun t221 => (if t221 = true then (if 1 + x7_15.size ≤ 9223372036854775807 then (if 1 ≤ (t215.size : Int) then (if ((⟨#[36]⟩ : ByteArray) ++ x7_15).size + (t215.extract 1 t215.size).size ≤ 9223372036854775807 then ((wisplaw02_told.f kj15 (((⟨#[36]⟩ : ByteArray) ++ x7_15) ++ (t215.extract 1 t215.size)) a0 0).bind fun t222 => (wisplaw02_TextCells.j3 kj15 a0 x7_15 t218 t222)) else (none)) else (none)) else (none)) else (wisplaw02_TextCells.j3 kj15 a0 x7_15 t218 false))) else (none)) else (wisplaw02_TextCells.j3 kj15 a0 x7_15 t218 false))) else (wisplaw02_TextCells.j3 kj15 a0 x7_15 t218 false)) = some r := H
                have A23 := Aside0.mk A230
                clear A230
                by_cases c24 : t219 = true
                · subst c24
                  have H1 : ((wisplaw02_told.f kj15 t215 a0 0).bind fun t220 => (if t220 = true then (if x7_15.size + t214.size ≤ 9223372036854775807 then ((wisplaw02_told.f kj15 (x7_15 ++ t214) a0 0).bind fun t221 => (if t221 = true then (if 1 + x7_15.size ≤ 9223372036854775807 then (if 1 ≤ (t215.size : Int) then (if ((⟨#[36]⟩ : ByteArray) ++ x7_15).size + (t215.extract 1 t215.size).size ≤ 9223372036854775807 then ((wisplaw02_told.f kj15 (((⟨#[36]⟩ : ByteArray) ++ x7_15) ++ (t215.extract 1 t215.size)) a0 0).bind fun t222 => (wisplaw02_TextCells.j3 kj15 a0 x7_15 t218 t222)) else (none)) else (none)) else (none)) else (wisplaw02_TextCells.j3 kj15 a0 x7_15 t218 false))) else (none)) else (wisplaw02_TextCells.j3 kj15 a0 x7_15 t218 false))) = some r := by rw [if_pos rfl] at H; exact H
                  clear H
                  have H := H1
                  clear H1
                  replace H := Option.bind_eq_some_iff.mp H
                  obtain ⟨t220, A250, H⟩ := H
                  replace H : (if t220 = true then (if x7_15.size + t214.size ≤ 9223372036854775807 then ((wisplaw02_told.f kj15 (x7_15 ++ t214) a0 0).bind fun t221 => (if t221 = true then (if 1 + x7_15.size ≤ 9223372036854775807 then (if 1 ≤ (t215.size : Int) then (if ((⟨#[36]⟩ : ByteArray) ++ x7_15).size + (t215.extract 1 t215.size).size ≤ 9223372036854775807 then ((wisplaw02_told.f kj15 (((⟨#[36]⟩ : ByteArray) ++ x7_15) ++ (t215.extract 1 t215.size)) a0 0).bind fun t222 => (wisplaw02_TextCells.j3 kj15 a0 x7_15 t218 t222)) else (none)) else (none)) else (none)) else (wisplaw02_TextCells.j3 kj15 a0 x7_15 t218 false))) else (none)) else (wisplaw02_TextCells.j3 kj15 a0 x7_15 t218 false)) = some r := H
                  have A25 := Aside0.mk A250
                  clear A250
                  by_cases c26 : t220 = true
                  · subst c26
                    have H1 : (if x7_15.size + t214.size ≤ 9223372036854775807 then ((wisplaw02_told.f kj15 (x7_15 ++ t214) a0 0).bind fun t221 => (if t221 = true then (if 1 + x7_15.size ≤ 9223372036854775807 then (if 1 ≤ (t215.size : Int) then (if ((⟨#[36]⟩ : ByteArray) ++ x7_15).size + (t215.extract 1 t215.size).size ≤ 9223372036854775807 then ((wisplaw02_told.f kj15 (((⟨#[36]⟩ : ByteArray) ++ x7_15) ++ (t215.extract 1 t215.size)) a0 0).bind fun t222 => (wisplaw02_TextCells.j3 kj15 a0 x7_15 t218 t222)) else (none)) else (none)) else (none)) else (wisplaw02_TextCells.j3 kj15 a0 x7_15 t218 false))) else (none)) = some r := by rw [if_pos rfl] at H; exact H
                    clear H
                    have H := H1
                    clear H1
                    by_cases c27 : x7_15.size + t214.size ≤ 9223372036854775807
                    · rw [if_pos c27] at H
                      have c27b0 := eq_true c27
                      have c27b1 : decide (x7_15.size + t214.size ≤ 9223372036854775807) = true := decide_eq_true c27
                      try have c27b2 : (9223372036854775807 < x7_15.size + t214.size) = False := eq_false (Nat.not_lt.2 c27)
                      replace H := Option.bind_eq_some_iff.mp H
                      obtain ⟨t221, A280, H⟩ := H
                      replace H : (if t221 = true then (if 1 + x7_15.size ≤ 9223372036854775807 then (if 1 ≤ (t215.size : Int) then (if ((⟨#[36]⟩ : ByteArray) ++ x7_15).size + (t215.extract 1 t215.size).size ≤ 9223372036854775807 then ((wisplaw02_told.f kj15 (((⟨#[36]⟩ : ByteArray) ++ x7_15) ++ (t215.extract 1 t215.size)) a0 0).bind fun t222 => (wisplaw02_TextCells.j3 kj15 a0 x7_15 t218 t222)) else (none)) else (none)) else (none)) else (wisplaw02_TextCells.j3 kj15 a0 x7_15 t218 false)) = some r := H
                      have A28 := Aside0.mk A280
                      clear A280
                      by_cases c29 : t221 = true
                      · subst c29
                        have H1 : (if 1 + x7_15.size ≤ 9223372036854775807 then (if 1 ≤ (t215.size : Int) then (if ((⟨#[36]⟩ : ByteArray) ++ x7_15).size + (t215.extract 1 t215.size).size ≤ 9223372036854775807 then ((wisplaw02_told.f kj15 (((⟨#[36]⟩ : ByteArray) ++ x7_15) ++ (t215.extract 1 t215.size)) a0 0).bind fun t222 => (wisplaw02_TextCells.j3 kj15 a0 x7_15 t218 t222)) else (none)) else (none)) else (none)) = some r := by rw [if_pos rfl] at H; exact H
                        clear H
                        have H := H1
                        clear H1
                        by_cases c30 : 1 + x7_15.size ≤ 9223372036854775807
                        · rw [if_pos c30] at H
                          have c30b0 := eq_true c30
                          have c30b1 : decide (1 + x7_15.size ≤ 9223372036854775807) = true := decide_eq_true c30
                          try have c30b2 : (9223372036854775807 < 1 + x7_15.size) = False := eq_false (Nat.not_lt.2 c30)
                          by_cases c31 : 1 ≤ (t215.size : Int)
                          · rw [if_pos c31] at H
                            have c31b0 := eq_true c31
                            have c31b1 : decide (1 ≤ (t215.size : Int)) = true := decide_eq_true c31
                            clear c31
                            by_cases c32 : ((⟨#[36]⟩ : ByteArray) ++ x7_15).size + (t215.extract 1 t215.size).size ≤ 9223372036854775807
                            · rw [if_pos c32] at H
                              have c32b0 := eq_true c32
                              have c32b1 : decide (((⟨#[36]⟩ : ByteArray) ++ x7_15).size + (t215.extract 1 t215.size).size ≤ 9223372036854775807) = true := decide_eq_true c32
                              try have c32b2 : (9223372036854775807 < ((⟨#[36]⟩ : ByteArray) ++ x7_15).size + (t215.extract 1 t215.size).size) = False := eq_false (Nat.not_lt.2 c32)
                              replace H := Option.bind_eq_some_iff.mp H
                              obtain ⟨t222, A330, H⟩ := H
                              replace H : (wisplaw02_TextCells.j3 kj15 a0 x7_15 t218 t222) = some r := H
                              have A33 := Aside0.mk A330
                              clear A330
                              have H' := Aside0.mk H
                              clear H
                              go_wp2_with (first | ((with_reducible refine gate_callee (f := 24) rfl ?_); refine goesL_ (some 48) rfl rfl Try.func24 (by kernel_rfl) rfl #[.string t214, .int .u16 a0, .int .i64 0] rfl (by (try simp only [List.map_toArray, List.map_cons, List.map_nil]); first | done | rfl | (simp only [List.length_drop, List.length_take]; rfl)) ?_; (with_reducible refine (wisplaw02_told.calls kj15 t214 a0 0 true _ A23.out).mono ?_); rintro e w34 ⟨rfl, hb⟩; refine ⟨_, rfl, ?_⟩; have n0_ := Aside0.mk (below_step (by repeat (first | (with_reducible first | exact HB.out | apply below_alloc | apply pw_below_drewN | apply below_drew1) | exact HB.out)) hb); clear HB; have HB := n0_; clear n0_; (try clear hb); (try clear hb2); (try clear hk); (try clear hi)) | (go_at_call 24; (with_reducible refine (wisplaw02_told.calls kj15 t215 a0 0 true _ A25.out).mono ?_); rintro e w35 ⟨rfl, hb⟩; have n0_ := Aside0.mk (below_step (by repeat (first | (with_reducible first | exact HB.out | apply below_alloc | apply pw_below_drewN | apply below_drew1) | exact HB.out)) hb); clear HB; have HB := n0_; clear n0_; (try clear hb); (try clear hb2); (try clear hk); (try clear hi)) | (go_at_call 24; (with_reducible refine (wisplaw02_told.calls kj15 (x7_15 ++ t214) a0 0 true _ A28.out).mono ?_); rintro e w36 ⟨rfl, hb⟩; have n0_ := Aside0.mk (below_step (by repeat (first | (with_reducible first | exact HB.out | apply below_alloc | apply pw_below_drewN | apply below_drew1) | exact HB.out)) hb); clear HB; have HB := n0_; clear n0_; (try clear hb); (try clear hb2); (try clear hk); (try clear hi)) | (go_at_call 24; (with_reducible refine (wisplaw02_told.calls kj15 (((⟨#[36]⟩ : ByteArray) ++ x7_15) ++ (t215.extract 1 t215.size)) a0 0 t222 _ A33.out).mono ?_); rintro e w37 ⟨rfl, hb⟩; have n0_ := Aside0.mk (below_step (by repeat (first | (with_reducible first | exact HB.out | apply below_alloc | apply pw_below_drewN | apply below_drew1) | exact HB.out)) hb); clear HB; have HB := n0_; clear n0_; (try clear hb); (try clear hb2); (try clear hk); (try clear hi)))
                              go_meet
                              case rel => exact ⟨_, (t222), (by first | rfl | (simp; done) | (simp [*]; done) | (simp [isEmpty_ne]; done)), H', ⟨by have := HJ6.out; have := HJ15.out; first | omega | exact Nat.le_refl _⟩, ⟨by repeat (first | (with_reducible first | exact HB.out | apply below_alloc | apply pw_below_drewN | apply below_drew1) | exact HB.out)⟩⟩
                            · rw [if_neg c32] at H
                              exact absurd H (by simp)
                          · rw [if_neg c31] at H
                            exact absurd H (by simp)
                        · rw [if_neg c30] at H
                          exact absurd H (by simp)
                      · replace c29 := Bool.eq_false_iff.mpr c29
                        subst c29
                        have H1 : (wisplaw02_TextCells.j3 kj15 a0 x7_15 t218 false) = some r := by rw [if_neg (show ¬ (false = true) by decide)] at H; exact H
                        clear H
                        have H := H1
                        clear H1
                        have H' := Aside0.mk H
                        clear H
                        go_wp2_with (first | ((with_reducible refine gate_callee (f := 24) rfl ?_); refine goesL_ (some 48) rfl rfl Try.func24 (by kernel_rfl) rfl #[.string t214, .int .u16 a0, .int .i64 0] rfl (by (try simp only [List.map_toArray, List.map_cons, List.map_nil]); first | done | rfl | (simp only [List.length_drop, List.length_take]; rfl)) ?_; (with_reducible refine (wisplaw02_told.calls kj15 t214 a0 0 true _ A23.out).mono ?_); rintro e w38 ⟨rfl, hb⟩; refine ⟨_, rfl, ?_⟩; have n0_ := Aside0.mk (below_step (by repeat (first | (with_reducible first | exact HB.out | apply below_alloc | apply pw_below_drewN | apply below_drew1) | exact HB.out)) hb); clear HB; have HB := n0_; clear n0_; (try clear hb); (try clear hb2); (try clear hk); (try clear hi)) | (go_at_call 24; (with_reducible refine (wisplaw02_told.calls kj15 t215 a0 0 true _ A25.out).mono ?_); rintro e w39 ⟨rfl, hb⟩; have n0_ := Aside0.mk (below_step (by repeat (first | (with_reducible first | exact HB.out | apply below_alloc | apply pw_below_drewN | apply below_drew1) | exact HB.out)) hb); clear HB; have HB := n0_; clear n0_; (try clear hb); (try clear hb2); (try clear hk); (try clear hi)) | (go_at_call 24; (with_reducible refine (wisplaw02_told.calls kj15 (x7_15 ++ t214) a0 0 false _ A28.out).mono ?_); rintro e w40 ⟨rfl, hb⟩; have n0_ := Aside0.mk (below_step (by repeat (first | (with_reducible first | exact HB.out | apply below_alloc | apply pw_below_drewN | apply below_drew1) | exact HB.out)) hb); clear HB; have HB := n0_; clear n0_; (try clear hb); (try clear hb2); (try clear hk); (try clear hi)))
                        go_meet
                        case rel => exact ⟨_, (false), (by first | rfl | (simp; done) | (simp [*]; done) | (simp [isEmpty_ne]; done)), H', ⟨by have := HJ6.out; have := HJ15.out; first | omega | exact Nat.le_refl _⟩, ⟨by repeat (first | (with_reducible first | exact HB.out | apply below_alloc | apply pw_below_drewN | apply below_drew1) | exact HB.out)⟩⟩
                    · rw [if_neg c27] at H
                      exact absurd H (by simp)
                  · replace c26 := Bool.eq_false_iff.mpr c26
                    subst c26
                    have H1 : (wisplaw02_TextCells.j3 kj15 a0 x7_15 t218 false) = some r := by rw [if_neg (show ¬ (false = true) by decide)] at H; exact H
                    clear H
                    have H := H1
                    clear H1
                    have H' := Aside0.mk H
                    clear H
                    go_wp2_with (first | ((with_reducible refine gate_callee (f := 24) rfl ?_); refine goesL_ (some 48) rfl rfl Try.func24 (by kernel_rfl) rfl #[.string t214, .int .u16 a0, .int .i64 0] rfl (by (try simp only [List.map_toArray, List.map_cons, List.map_nil]); first | done | rfl | (simp only [List.length_drop, List.length_take]; rfl)) ?_; (with_reducible refine (wisplaw02_told.calls kj15 t214 a0 0 true _ A23.out).mono ?_); rintro e w41 ⟨rfl, hb⟩; refine ⟨_, rfl, ?_⟩; have n0_ := Aside0.mk (below_step (by repeat (first | (with_reducible first | exact HB.out | apply below_alloc | apply pw_below_drewN | apply below_drew1) | exact HB.out)) hb); clear HB; have HB := n0_; clear n0_; (try clear hb); (try clear hb2); (try clear hk); (try clear hi)) | (go_at_call 24; (with_reducible refine (wisplaw02_told.calls kj15 t215 a0 0 false _ A25.out).mono ?_); rintro e w42 ⟨rfl, hb⟩; have n0_ := Aside0.mk (below_step (by repeat (first | (with_reducible first | exact HB.out | apply below_alloc | apply pw_below_drewN | apply below_drew1) | exact HB.out)) hb); clear HB; have HB := n0_; clear n0_; (try clear hb); (try clear hb2); (try clear hk); (try clear hi)))
                    go_meet
                    case rel => exact ⟨_, (false), (by first | rfl | (simp; done) | (simp [*]; done) | (simp [isEmpty_ne]; done)), H', ⟨by have := HJ6.out; have := HJ15.out; first | omega | exact Nat.le_refl _⟩, ⟨by repeat (first | (with_reducible first | exact HB.out | apply below_alloc | apply pw_below_drewN | apply below_drew1) | exact HB.out)⟩⟩
                · replace c24 := Bool.eq_false_iff.mpr c24
                  subst c24
                  have H1 : (wisplaw02_TextCells.j3 kj15 a0 x7_15 t218 false) = some r := by rw [if_neg (show ¬ (false = true) by decide)] at H; exact H
                  clear H
                  have H := H1
                  clear H1
                  have H' := Aside0.mk H
                  clear H
                  go_wp2_with (first | ((with_reducible refine gate_callee (f := 24) rfl ?_); refine goesL_ (some 48) rfl rfl Try.func24 (by kernel_rfl) rfl #[.string t214, .int .u16 a0, .int .i64 0] rfl (by (try simp only [List.map_toArray, List.map_cons, List.map_nil]); first | done | rfl | (simp only [List.length_drop, List.length_take]; rfl)) ?_; (with_reducible refine (wisplaw02_told.calls kj15 t214 a0 0 false _ A23.out).mono ?_); rintro e w43 ⟨rfl, hb⟩; refine ⟨_, rfl, ?_⟩; have n0_ := Aside0.mk (below_step (by repeat (first | (with_reducible first | exact HB.out | apply below_alloc | apply pw_below_drewN | apply below_drew1) | exact HB.out)) hb); clear HB; have HB := n0_; clear n0_; (try clear hb); (try clear hb2); (try clear hk); (try clear hi)))
                  go_meet
                  case rel => exact ⟨_, (false), (by first | rfl | (simp; done) | (simp [*]; done) | (simp [isEmpty_ne]; done)), H', ⟨by have := HJ6.out; have := HJ15.out; first | omega | exact Nat.le_refl _⟩, ⟨by repeat (first | (with_reducible first | exact HB.out | apply below_alloc | apply pw_below_drewN | apply below_drew1) | exact HB.out)⟩⟩
              case rest =>
                clear HC21
                try clear c1
                try clear c2
                try clear p2
                try clear c3
                try clear c4
                try clear p6
                try clear c9
                try clear c12
                try clear c12b0
                try clear c12b1
                try clear c14
                try clear c14b0
                try clear c14b1
                try clear c15
                try clear c17
                try clear c17b0
                try clear c18
                try clear c18b0
                try clear c19
                try clear c19b0
                try clear c19b1
                try clear c19b2
                try clear c23
                try clear c24
                try clear c26
                try clear c27
                try clear c27b0
                try clear c27b1
                try clear c27b2
                try clear c28
                try clear c29
                try clear c30
                try clear c30b0
                try clear c30b1
                try clear c30b2
                try clear c31
                try clear c31b0
                try clear c31b1
                try clear c32
                try clear c32b0
                try clear c32b1
                try clear c32b2
                try clear c33
                try clear p2
                try clear p6
                obtain ⟨kq, x10_20, rfl, HA, HJ20, HB⟩ := hcut
                cases kq with
                | zero => exact absurd HA.out (by simp [wisplaw02_TextCells.j3])
                | succ kj20 =>
                  have H := HA.out
                  clear HA
                  simp only [wisplaw02_TextCells.j3] at H
                  have HC44 := Aside0.mk H
                  clear H
                  go_upto_region 13 with (fail)
                  go_cut [75] (fun v75 wc => ∃ (kq : Nat) (x75_43 : Bool), v75 = .bool x75_43 ∧ Aside0 (wisplaw02_TextCells.j4 kq a0 x7_15 t218 x10_20 x75_43 = some r) ∧ Aside0 (kq ≤ kj20) ∧ Aside0 (Below w.heap.size w wc))
                  case first =>
                    have H := HC44.out
                    clear HC44
                    by_cases c45 : a0 ≥ 32768
                    · rw [if_pos c45] at H
                      have c45b0 : decide (32768 ≤ a0) = true := decide_eq_true c45
                      clear c45
                      (first | rw [c45b0] | (simp only [i64_w, i32_w]; rw [c45b0]) | skip)
                      have H' := Aside0.mk H
                      clear H
                      go_wp2
                      go_meet
                      case rel => exact ⟨_, (true), (by first | rfl | (simp; done) | (simp [*]; done) | (simp [isEmpty_ne]; done)), H', ⟨by have := HJ6.out; have := HJ15.out; have := HJ20.out; first | omega | exact Nat.le_refl _⟩, ⟨by repeat (first | (with_reducible first | exact HB.out | apply below_alloc | apply pw_below_drewN | apply below_drew1) | exact HB.out)⟩⟩
                    · rw [if_neg c45] at H
                      have c45b0 : decide (32768 ≤ a0) = false := decide_eq_false c45
                      clear c45
                      (first | rw [c45b0] | (simp only [i64_w, i32_w]; rw [c45b0]) | skip)
                      have H' := Aside0.mk H
                      clear H
                      go_wp2
                      go_meet
                      case rel => exact ⟨_, ((a0 == 0)), (by first | rfl | (simp; done) | (simp [*]; done) | (simp [isEmpty_ne]; done)), H', ⟨by have := HJ6.out; have := HJ15.out; have := HJ20.out; first | omega | exact Nat.le_refl _⟩, ⟨by repeat (first | (with_reducible first | exact HB.out | apply below_alloc | apply pw_below_drewN | apply below_drew1) | exact HB.out)⟩⟩
                  case rest =>
                    clear HC44
                    try clear c1
                    try clear c2
                    try clear p2
                    try clear c3
                    try clear c4
                    try clear p6
                    try clear c9
                    try clear c12
                    try clear c12b0
                    try clear c12b1
                    try clear c14
                    try clear c14b0
                    try clear c14b1
                    try clear c15
                    try clear c17
                    try clear c17b0
                    try clear c18
                    try clear c18b0
                    try clear c19
                    try clear c19b0
                    try clear c19b1
                    try clear c19b2
                    try clear c23
                    try clear c24
                    try clear c26
                    try clear c27
                    try clear c27b0
                    try clear c27b1
                    try clear c27b2
                    try clear c28
                    try clear c29
                    try clear c30
                    try clear c30b0
                    try clear c30b1
                    try clear c30b2
                    try clear c31
                    try clear c31b0
                    try clear c31b1
                    try clear c32
                    try clear c32b0
                    try clear c32b1
                    try clear c32b2
                    try clear c33
                    try clear c45
                    try clear c45b0
                    try clear p2
                    try clear p6
                    obtain ⟨kq, x75_43, rfl, HA, HJ43, HB⟩ := hcut
                    cases kq with
                    | zero => exact absurd HA.out (by simp [wisplaw02_TextCells.j4])
                    | succ kj43 =>
                      have H := HA.out
                      clear HA
                      simp only [wisplaw02_TextCells.j4] at H
                      by_cases c46 : x75_43 = true
                      · subst c46
                        have H1 : (if x10_20 = true then (if 1 + x7_15.size ≤ 9223372036854775807 then (if ((⟨#[45]⟩ : ByteArray) ++ x7_15).size + t218.size ≤ 9223372036854775807 then ((wisplaw02_told.f kj43 (((⟨#[45]⟩ : ByteArray) ++ x7_15) ++ t218) a0 0).bind fun t223 => (some t223)) else (none)) else (none)) else (some false)) = some r := by rw [if_pos rfl] at H; exact H
                        clear H
                        have H := H1
                        clear H1
                        by_cases c47 : x10_20 = true
                        · subst c47
                          have H1 : (if 1 + x7_15.size ≤ 9223372036854775807 then (if ((⟨#[45]⟩ : ByteArray) ++ x7_15).size + t218.size ≤ 9223372036854775807 then ((wisplaw02_told.f kj43 (((⟨#[45]⟩ : ByteArray) ++ x7_15) ++ t218) a0 0).bind fun t223 => (some t223)) else (none)) else (none)) = some r := by rw [if_pos rfl] at H; exact H
                          clear H
                          have H := H1
                          clear H1
                          by_cases c48 : 1 + x7_15.size ≤ 9223372036854775807
                          · rw [if_pos c48] at H
                            have c48b0 := eq_true c48
                            have c48b1 : decide (1 + x7_15.size ≤ 9223372036854775807) = true := decide_eq_true c48
                            try have c48b2 : (9223372036854775807 < 1 + x7_15.size) = False := eq_false (Nat.not_lt.2 c48)
                            by_cases c49 : ((⟨#[45]⟩ : ByteArray) ++ x7_15).size + t218.size ≤ 9223372036854775807
                            · rw [if_pos c49] at H
                              have c49b0 := eq_true c49
                              have c49b1 : decide (((⟨#[45]⟩ : ByteArray) ++ x7_15).size + t218.size ≤ 9223372036854775807) = true := decide_eq_true c49
                              try have c49b2 : (9223372036854775807 < ((⟨#[45]⟩ : ByteArray) ++ x7_15).size + t218.size) = False := eq_false (Nat.not_lt.2 c49)
                              replace H := Option.bind_eq_some_iff.mp H
                              obtain ⟨t223, A500, H⟩ := H
                              replace H : (some t223) = some r := H
                              have A50 := Aside0.mk A500
                              clear A500
                              obtain rfl := Option.some.inj H
                              go_wp2_with (first | (go_at_call 24; (with_reducible refine (wisplaw02_told.calls kj43 (((⟨#[45]⟩ : ByteArray) ++ x7_15) ++ t218) a0 0 t223 _ A50.out).mono ?_); rintro e w51 ⟨rfl, hb⟩; have n0_ := Aside0.mk (below_step (by repeat (first | (with_reducible first | exact HB.out | apply below_alloc | apply pw_below_drewN | apply below_drew1) | exact HB.out)) hb); clear HB; have HB := n0_; clear n0_; (try clear hb); (try clear hb2); (try clear hk); (try clear hi)))
                              go_ret
                              exact ⟨by first | rfl | (simp [errW_none, errW_some] <;> rfl) | (simp [*, errW_none, errW_some] <;> rfl), by repeat (first | (with_reducible first | exact HB.out | apply below_alloc | apply pw_below_drewN | apply below_drew1) | exact HB.out)⟩
                            · rw [if_neg c49] at H
                              exact absurd H (by simp)
                          · rw [if_neg c48] at H
                            exact absurd H (by simp)
                        · replace c47 := Bool.eq_false_iff.mpr c47
                          subst c47
                          have H1 : (some false) = some r := by rw [if_neg (show ¬ (false = true) by decide)] at H; exact H
                          clear H
                          have H := H1
                          clear H1
                          obtain rfl := Option.some.inj H
                          go_wp2
                          go_ret
                          exact ⟨by first | rfl | (simp [errW_none, errW_some] <;> rfl) | (simp [*, errW_none, errW_some] <;> rfl), by repeat (first | (with_reducible first | exact HB.out | apply below_alloc | apply pw_below_drewN | apply below_drew1) | exact HB.out)⟩
                      · replace c46 := Bool.eq_false_iff.mpr c46
                        subst c46
                        have H1 : (if x10_20 = true then (if 1 + x7_15.size ≤ 9223372036854775807 then (if ((⟨#[45]⟩ : ByteArray) ++ x7_15).size + t218.size ≤ 9223372036854775807 then ((wisplaw02_told.f kj43 (((⟨#[45]⟩ : ByteArray) ++ x7_15) ++ t218) 0 21).bind fun t224 => (some t224)) else (none)) else (none)) else (some false)) = some r := by rw [if_neg (show ¬ (false = true) by decide)] at H; exact H
                        clear H
                        have H := H1
                        clear H1
                        by_cases c52 : x10_20 = true
                        · subst c52
                          have H1 : (if 1 + x7_15.size ≤ 9223372036854775807 then (if ((⟨#[45]⟩ : ByteArray) ++ x7_15).size + t218.size ≤ 9223372036854775807 then ((wisplaw02_told.f kj43 (((⟨#[45]⟩ : ByteArray) ++ x7_15) ++ t218) 0 21).bind fun t224 => (some t224)) else (none)) else (none)) = some r := by rw [if_pos rfl] at H; exact H
                          clear H
                          have H := H1
                          clear H1
                          by_cases c53 : 1 + x7_15.size ≤ 9223372036854775807
                          · rw [if_pos c53] at H
                            have c53b0 := eq_true c53
                            have c53b1 : decide (1 + x7_15.size ≤ 9223372036854775807) = true := decide_eq_true c53
                            try have c53b2 : (9223372036854775807 < 1 + x7_15.size) = False := eq_false (Nat.not_lt.2 c53)
                            by_cases c54 : ((⟨#[45]⟩ : ByteArray) ++ x7_15).size + t218.size ≤ 9223372036854775807
                            · rw [if_pos c54] at H
                              have c54b0 := eq_true c54
                              have c54b1 : decide (((⟨#[45]⟩ : ByteArray) ++ x7_15).size + t218.size ≤ 9223372036854775807) = true := decide_eq_true c54
                              try have c54b2 : (9223372036854775807 < ((⟨#[45]⟩ : ByteArray) ++ x7_15).size + t218.size) = False := eq_false (Nat.not_lt.2 c54)
                              replace H := Option.bind_eq_some_iff.mp H
                              obtain ⟨t224, A550, H⟩ := H
                              replace H : (some t224) = some r := H
                              have A55 := Aside0.mk A550
                              clear A550
                              obtain rfl := Option.some.inj H
                              go_wp2_with (first | (go_at_call 24; (with_reducible refine (wisplaw02_told.calls kj43 (((⟨#[45]⟩ : ByteArray) ++ x7_15) ++ t218) 0 21 t224 _ A55.out).mono ?_); rintro e w56 ⟨rfl, hb⟩; have n0_ := Aside0.mk (below_step (by repeat (first | (with_reducible first | exact HB.out | apply below_alloc | apply pw_below_drewN | apply below_drew1) | exact HB.out)) hb); clear HB; have HB := n0_; clear n0_; (try clear hb); (try clear hb2); (try clear hk); (try clear hi)))
                              go_ret
                              exact ⟨by first | rfl | (simp [errW_none, errW_some] <;> rfl) | (simp [*, errW_none, errW_some] <;> rfl), by repeat (first | (with_reducible first | exact HB.out | apply below_alloc | apply pw_below_drewN | apply below_drew1) | exact HB.out)⟩
                            · rw [if_neg c54] at H
                              exact absurd H (by simp)
                          · rw [if_neg c53] at H
                            exact absurd H (by simp)
                        · replace c52 := Bool.eq_false_iff.mpr c52
                          subst c52
                          have H1 : (some false) = some r := by rw [if_neg (show ¬ (false = true) by decide)] at H; exact H
                          clear H
                          have H := H1
                          clear H1
                          obtain rfl := Option.some.inj H
                          go_wp2
                          go_ret
                          exact ⟨by first | rfl | (simp [errW_none, errW_some] <;> rfl) | (simp [*, errW_none, errW_some] <;> rfl), by repeat (first | (with_reducible first | exact HB.out | apply below_alloc | apply pw_below_drewN | apply below_drew1) | exact HB.out)⟩
  · replace c4 := Bool.eq_false_iff.mpr c4
    subst c4
    have H1 : (some false) = some r := by rw [if_neg (show ¬ (false = true) by decide)] at H; exact H
    clear H
    have H := H1
    clear H1
    obtain rfl := Option.some.inj H
    go_enter Try.func9, Try.ntmps9
    go_wp2_with (first | ((with_reducible refine gate_callee (f := 23) rfl ?_); refine goesL_ (some 11) rfl rfl Try.func23 (by kernel_rfl) rfl #[] rfl (by (try simp only [List.map_toArray, List.map_cons, List.map_nil]); first | done | rfl | (simp only [List.length_drop, List.length_take]; rfl)) ?_; (with_reducible refine (wisplaw02_fixed.calls k  false _ A3.out).mono ?_); rintro e w57 ⟨rfl, hb⟩; refine ⟨_, rfl, ?_⟩; have n0_ := Aside0.mk (below_step (by repeat (first | (with_reducible first | exact HB.out | apply below_alloc | apply pw_below_drewN | apply below_drew1) | exact HB.out)) hb); clear HB; have HB := n0_; clear n0_; (try clear hb); (try clear hb2); (try clear hk); (try clear hi)))
    go_ret
    exact ⟨by first | rfl | (simp [errW_none, errW_some] <;> rfl) | (simp [*, errW_none, errW_some] <;> rfl), by repeat (first | (with_reducible first | exact HB.out | apply below_alloc | apply pw_below_drewN | apply below_drew1) | exact HB.out)⟩

/-- THE ONE PURE STATEMENT of wisplaw02_TextCells: yours. -/
def wisplaw02_TextCells.Pure : Prop := ∀ (a0 : Int) (a1 : Int), (Lit.int .u16 a0).wf = true → (Lit.int .i64 a1).wf = true → ∃ k, wisplaw02_TextCells.f k a0 a1 = some true
theorem wisplaw02_TextCells.walk (P : wisplaw02_TextCells.Pure) (a0 : Int) (a1 : Int) (w : World) (w0 : (Lit.int .u16 a0).wf = true) (w1 : (Lit.int .i64 a1).wf = true) :
    Calls Try.prog 9 #[.int .u16 a0, .int .i64 a1] w fun e w' => e = .returned (.bool true) ∧ Below w.heap.size w w' := by
  obtain ⟨k, h⟩ := P a0 a1 w0 w1
  refine (wisplaw02_TextCells.calls k a0 a1 true w h).mono ?_
  rintro e w' ⟨rfl, hd⟩
  exact ⟨rfl, hd⟩

end Go.Proofs.Ytjphhnhloeanlaa.P
