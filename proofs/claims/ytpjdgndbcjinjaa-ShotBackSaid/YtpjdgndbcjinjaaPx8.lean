/- Printed by a program of this session (it turns the kit's print): see wip/myprint. -/
import Derived.Test.YtpjdgndbcjinjaaPx0
import Derived.Test.YtpjdgndbcjinjaaPx2
import Derived.Test.YtpjdgndbcjinjaaPx3
import Derived.Test.YtpjdgndbcjinjaaPx4
import Derived.Test.YtpjdgndbcjinjaaPx6
import Derived.Test.YtpjdgndbcjinjaaPx7
import Derived.Test.YtpjdgndbcjinjaaPack
namespace Go.Proofs.Ytpjdgndbcjinjaa.P
open Go.RowKit Go.Proofs.YtpjdgndbcjinjaaW.PrintWords Go.Proofs.YtpjdgndbcjinjaaW.PrintLast Go.Proofs.YtpjdgndbcjinjaaW.PrintMore Go.Proofs.Ytpjdgndbcjinjaa.Mine
attribute [local go_sem] max2_int min2_int max_two min_two max_three min_three max_four min_four   -- for this text's walks alone
set_option linter.unusedVariables false
set_option linter.unusedSimpArgs false

/-! ### wisplaw20_ShotBack: function 8 -/
mutual
def wisplaw20_ShotBack.j0 : Nat → ByteArray → List Int → Bool → Option (Bool)
  | 0, _, _, _ => none
  | k + 1, x1, x2, x88 => if x88 = true then (some false) else ((shot_Read.f k x1).bind fun bt249 => ((shot_Unpack.f k x2).bind fun bt253 => (if bt249.2 = 0 then (if bt253.2 = 0 then (wisplaw20_ShotBack.j1 k x1 x2 bt249.1 bt249.2 bt253.1 bt253.2 false) else (if bt253.2 = 2 then (wisplaw20_ShotBack.j1 k x1 x2 bt249.1 bt249.2 bt253.1 bt253.2 ((bt253.1.length : Int) != 0)) else (wisplaw20_ShotBack.j1 k x1 x2 bt249.1 bt249.2 bt253.1 bt253.2 true))) else (if bt249.2 = 2 then (if (bt249.1.length : Int) = 0 then (if bt253.2 = 0 then (wisplaw20_ShotBack.j1 k x1 x2 bt249.1 bt249.2 bt253.1 bt253.2 false) else (if bt253.2 = 2 then (wisplaw20_ShotBack.j1 k x1 x2 bt249.1 bt249.2 bt253.1 bt253.2 ((bt253.1.length : Int) != 0)) else (wisplaw20_ShotBack.j1 k x1 x2 bt249.1 bt249.2 bt253.1 bt253.2 true))) else (wisplaw20_ShotBack.j1 k x1 x2 bt249.1 bt249.2 bt253.1 bt253.2 true)) else (wisplaw20_ShotBack.j1 k x1 x2 bt249.1 bt249.2 bt253.1 bt253.2 true)))))
def wisplaw20_ShotBack.j1 : Nat → ByteArray → List Int → List Int → Int → List Int → Int → Bool → Option (Bool)
  | 0, _, _, _, _, _, _, _ => none
  | k + 1, x1, x2, x12, x13, x14, x15, x122 => if x122 = true then (some false) else (if x13 = 0 then ((shot_Art.f k x12).bind fun bt257 => (if bt257.2 = 0 then (if bt257.1.toList = x1.toList then (wisplaw20_ShotBack.j2 k x2 x14 x15) else (some false)) else (some false))) else (wisplaw20_ShotBack.j2 k x2 x14 x15))
def wisplaw20_ShotBack.j2 : Nat → List Int → List Int → Int → Option (Bool)
  | 0, _, _, _ => none
  | k + 1, x2, x14, x15 => if x15 = 0 then ((shot_Pack.f x14).bind fun bt259 => (if bt259.2 = 0 then (if (strOfNums bt259.1).toList = (strOfNums x2).toList then (some true) else (some false)) else (some false))) else (some true)
end
def wisplaw20_ShotBack.f (k : Nat) (l0 : List Int) (a1 : ByteArray) (l2 : List Int) : Option (Bool) := (wisplaw20_screen.f k l0).bind fun t231 => ((shot_Art.f k t231).bind fun bt234 => ((shot_Pack.f t231).bind fun bt236 => ((shot_Read.f k bt234.1).bind fun bt240 => ((shot_Unpack.f k bt236.1).bind fun bt244 => (if bt234.2 = 0 then (if bt236.2 = 0 then (if bt240.2 = 0 then (if bt244.2 = 0 then (if (strOfNums bt240.1).toList = (strOfNums t231).toList then (if (strOfNums bt244.1).toList = (strOfNums t231).toList then (if (bt234.1.size : Int) = 6192 then (if (bt236.1.length : Int) < 24 then (wisplaw20_ShotBack.j0 k a1 l2 true) else (if (bt236.1.length : Int) > 6144 then (wisplaw20_ShotBack.j0 k a1 l2 true) else ((wisplaw20_fixed.f k).bind fun t248 => (wisplaw20_ShotBack.j0 k a1 l2 (!t248))))) else (wisplaw20_ShotBack.j0 k a1 l2 true)) else (wisplaw20_ShotBack.j0 k a1 l2 true)) else (wisplaw20_ShotBack.j0 k a1 l2 true)) else (wisplaw20_ShotBack.j0 k a1 l2 true)) else (wisplaw20_ShotBack.j0 k a1 l2 true)) else (wisplaw20_ShotBack.j0 k a1 l2 true)) else (wisplaw20_ShotBack.j0 k a1 l2 true))))))
theorem wisplaw20_ShotBack.mono_l : ∀ k, (∀ y0 y1 y2, LeO (wisplaw20_ShotBack.j0 k y0 y1 y2) (wisplaw20_ShotBack.j0 (k + 1) y0 y1 y2)) ∧ (∀ y0 y1 y2 y3 y4 y5 y6, LeO (wisplaw20_ShotBack.j1 k y0 y1 y2 y3 y4 y5 y6) (wisplaw20_ShotBack.j1 (k + 1) y0 y1 y2 y3 y4 y5 y6)) ∧ (∀ y0 y1 y2, LeO (wisplaw20_ShotBack.j2 k y0 y1 y2) (wisplaw20_ShotBack.j2 (k + 1) y0 y1 y2))
  | 0 => ⟨fun _ _ _ r h => by simp [wisplaw20_ShotBack.j0] at h, fun _ _ _ _ _ _ _ r h => by simp [wisplaw20_ShotBack.j1] at h, fun _ _ _ r h => by simp [wisplaw20_ShotBack.j2] at h⟩
  | k + 1 => by
    obtain ⟨ih0, ih1, ih2⟩ := wisplaw20_ShotBack.mono_l k
    refine ⟨?_, ?_, ?_⟩
    · intro y0 y1 y2
      unfold wisplaw20_ShotBack.j0
      repeat' first
      | (with_reducible exact ih0 _ _ _)
      | (with_reducible exact ih1 _ _ _ _ _ _ _)
      | (with_reducible exact ih2 _ _ _)
      | (with_reducible exact shot_Art.mono _ _)
      | (with_reducible exact shot_Read.mono _ _)
      | (with_reducible exact shot_Unpack.mono _ _)
      | (with_reducible exact wisplaw20_fixed.mono _)
      | (with_reducible exact wisplaw20_screen.mono _ _)
      | (with_reducible exact LeO.refl _)
      | (with_reducible exact LeO.none _)
      | (with_reducible refine LeO.ite ?_ ?_)
      | (with_reducible refine LeO.bind ?_ (fun _ => ?_))
      | exact ih0 _ _ _
      | exact ih1 _ _ _ _ _ _ _
      | exact ih2 _ _ _
      | exact shot_Art.mono _ _
      | exact shot_Read.mono _ _
      | exact shot_Unpack.mono _ _
      | exact wisplaw20_fixed.mono _
      | exact wisplaw20_screen.mono _ _
      | exact LeO.none _
      | refine LeO.ite ?_ ?_
      | refine LeO.bind ?_ (fun _ => ?_)
    · intro y0 y1 y2 y3 y4 y5 y6
      unfold wisplaw20_ShotBack.j1
      repeat' first
      | (with_reducible exact ih0 _ _ _)
      | (with_reducible exact ih1 _ _ _ _ _ _ _)
      | (with_reducible exact ih2 _ _ _)
      | (with_reducible exact shot_Art.mono _ _)
      | (with_reducible exact shot_Read.mono _ _)
      | (with_reducible exact shot_Unpack.mono _ _)
      | (with_reducible exact wisplaw20_fixed.mono _)
      | (with_reducible exact wisplaw20_screen.mono _ _)
      | (with_reducible exact LeO.refl _)
      | (with_reducible exact LeO.none _)
      | (with_reducible refine LeO.ite ?_ ?_)
      | (with_reducible refine LeO.bind ?_ (fun _ => ?_))
      | exact ih0 _ _ _
      | exact ih1 _ _ _ _ _ _ _
      | exact ih2 _ _ _
      | exact shot_Art.mono _ _
      | exact shot_Read.mono _ _
      | exact shot_Unpack.mono _ _
      | exact wisplaw20_fixed.mono _
      | exact wisplaw20_screen.mono _ _
      | exact LeO.none _
      | refine LeO.ite ?_ ?_
      | refine LeO.bind ?_ (fun _ => ?_)
    · intro y0 y1 y2
      unfold wisplaw20_ShotBack.j2
      repeat' first
      | (with_reducible exact ih0 _ _ _)
      | (with_reducible exact ih1 _ _ _ _ _ _ _)
      | (with_reducible exact ih2 _ _ _)
      | (with_reducible exact shot_Art.mono _ _)
      | (with_reducible exact shot_Read.mono _ _)
      | (with_reducible exact shot_Unpack.mono _ _)
      | (with_reducible exact wisplaw20_fixed.mono _)
      | (with_reducible exact wisplaw20_screen.mono _ _)
      | (with_reducible exact LeO.refl _)
      | (with_reducible exact LeO.none _)
      | (with_reducible refine LeO.ite ?_ ?_)
      | (with_reducible refine LeO.bind ?_ (fun _ => ?_))
      | exact ih0 _ _ _
      | exact ih1 _ _ _ _ _ _ _
      | exact ih2 _ _ _
      | exact shot_Art.mono _ _
      | exact shot_Read.mono _ _
      | exact shot_Unpack.mono _ _
      | exact wisplaw20_fixed.mono _
      | exact wisplaw20_screen.mono _ _
      | exact LeO.none _
      | refine LeO.ite ?_ ?_
      | refine LeO.bind ?_ (fun _ => ?_)
theorem wisplaw20_ShotBack.mono : ∀ a0 a1 a2 k, LeO (wisplaw20_ShotBack.f k a0 a1 a2) (wisplaw20_ShotBack.f (k + 1) a0 a1 a2) := by
  intro a0 a1 a2 k
  obtain ⟨ih0, ih1, ih2⟩ := wisplaw20_ShotBack.mono_l k
  unfold wisplaw20_ShotBack.f
  repeat' first
      | (with_reducible exact ih0 _ _ _)
      | (with_reducible exact ih1 _ _ _ _ _ _ _)
      | (with_reducible exact ih2 _ _ _)
      | (with_reducible exact shot_Art.mono _ _)
      | (with_reducible exact shot_Read.mono _ _)
      | (with_reducible exact shot_Unpack.mono _ _)
      | (with_reducible exact wisplaw20_fixed.mono _)
      | (with_reducible exact wisplaw20_screen.mono _ _)
      | (with_reducible exact LeO.refl _)
      | (with_reducible exact LeO.none _)
      | (with_reducible refine LeO.ite ?_ ?_)
      | (with_reducible refine LeO.bind ?_ (fun _ => ?_))
      | exact ih0 _ _ _
      | exact ih1 _ _ _ _ _ _ _
      | exact ih2 _ _ _
      | exact shot_Art.mono _ _
      | exact shot_Read.mono _ _
      | exact shot_Unpack.mono _ _
      | exact wisplaw20_fixed.mono _
      | exact wisplaw20_screen.mono _ _
      | exact LeO.none _
      | refine LeO.ite ?_ ?_
      | refine LeO.bind ?_ (fun _ => ?_)
set_option maxHeartbeats 8000000 in
set_option maxRecDepth 100000 in
theorem wisplaw20_ShotBack.calls (k : Nat) (A0 : Option Addr) (c0 : Nat) (l0 : List Int) (a1 : ByteArray) (A2 : Option Addr) (c2 : Nat) (l2 : List Int) (r : Bool) (w : World) (hr0 : Kd.C (Kd.int .u8) w A0 l0.length l0) (hc0 : l0.length ≤ c0) (hr2 : Kd.C (Kd.int .u8) w A2 l2.length l2) (hc2 : l2.length ≤ c2) (h : wisplaw20_ShotBack.f k l0 a1 l2 = some r) :
    Calls Try.prog 8 #[.slice A0 l0.length c0, .string a1, .slice A2 l2.length c2] w fun e w' => e = .returned (.bool r) ∧ Below w.heap.size w w' := by
  have HR0 := Aside0.mk hr0
  have HC0 := Aside0.mk hc0
  clear hr0 hc0
  have HR2 := Aside0.mk hr2
  have HC2 := Aside0.mk hc2
  clear hr2 hc2
  have HB := Aside0.mk (Below.refl w.heap.size w)
  have H : ((wisplaw20_screen.f k l0).bind fun t231 => ((shot_Art.f k t231).bind fun bt234 => ((shot_Pack.f t231).bind fun bt236 => ((shot_Read.f k bt234.1).bind fun bt240 => ((shot_Unpack.f k bt236.1).bind fun bt244 => (if bt234.2 = 0 then (if bt236.2 = 0 then (if bt240.2 = 0 then (if bt244.2 = 0 then (if (strOfNums bt240.1).toList = (strOfNums t231).toList then (if (strOfNums bt244.1).toList = (strOfNums t231).toList then (if (bt234.1.size : Int) = 6192 then (if (bt236.1.length : Int) < 24 then (wisplaw20_ShotBack.j0 k a1 l2 true) else (if (bt236.1.length : Int) > 6144 then (wisplaw20_ShotBack.j0 k a1 l2 true) else ((wisplaw20_fixed.f k).bind fun t248 => (wisplaw20_ShotBack.j0 k a1 l2 (!t248))))) else (wisplaw20_ShotBack.j0 k a1 l2 true)) else (wisplaw20_ShotBack.j0 k a1 l2 true)) else (wisplaw20_ShotBack.j0 k a1 l2 true)) else (wisplaw20_ShotBack.j0 k a1 l2 true)) else (wisplaw20_ShotBack.j0 k a1 l2 true)) else (wisplaw20_ShotBack.j0 k a1 l2 true)) else (wisplaw20_ShotBack.j0 k a1 l2 true))))))) = some r := h
  clear h
  replace H := Option.bind_eq_some_iff.mp H
  obtain ⟨t231, A40, H⟩ := H
  replace H : ((shot_Art.f k t231).bind fun bt234 => ((shot_Pack.f t231).bind fun bt236 => ((shot_Read.f k bt234.1).bind fun bt240 => ((shot_Unpack.f k bt236.1).bind fun bt244 => (if bt234.2 = 0 then (if bt236.2 = 0 then (if bt240.2 = 0 then (if bt244.2 = 0 then (if (strOfNums bt240.1).toList = (strOfNums t231).toList then (if (strOfNums bt244.1).toList = (strOfNums t231).toList then (if (bt234.1.size : Int) = 6192 then (if (bt236.1.length : Int) < 24 then (wisplaw20_ShotBack.j0 k a1 l2 true) else (if (bt236.1.length : Int) > 6144 then (wisplaw20_ShotBack.j0 k a1 l2 true) else ((wisplaw20_fixed.f k).bind fun t248 => (wisplaw20_ShotBack.j0 k a1 l2 (!t248))))) else (wisplaw20_ShotBack.j0 k a1 l2 true)) else (wisplaw20_ShotBack.j0 k a1 l2 true)) else (wisplaw20_ShotBack.j0 k a1 l2 true)) else (wisplaw20_ShotBack.j0 k a1 l2 true)) else (wisplaw20_ShotBack.j0 k a1 l2 true)) else (wisplaw20_ShotBack.j0 k a1 l2 true)) else (wisplaw20_ShotBack.j0 k a1 l2 true)))))) = some r := H
  have A4 := Aside0.mk A40
  clear A40
  replace H := Option.bind_eq_some_iff.mp H
  obtain ⟨⟨t234, t235⟩, A50, H⟩ := H
  replace H : ((shot_Pack.f t231).bind fun bt236 => ((shot_Read.f k t234).bind fun bt240 => ((shot_Unpack.f k bt236.1).bind fun bt244 => (if t235 = 0 then (if bt236.2 = 0 then (if bt240.2 = 0 then (if bt244.2 = 0 then (if (strOfNums bt240.1).toList = (strOfNums t231).toList then (if (strOfNums bt244.1).toList = (strOfNums t231).toList then (if (t234.size : Int) = 6192 then (if (bt236.1.length : Int) < 24 then (wisplaw20_ShotBack.j0 k a1 l2 true) else (if (bt236.1.length : Int) > 6144 then (wisplaw20_ShotBack.j0 k a1 l2 true) else ((wisplaw20_fixed.f k).bind fun t248 => (wisplaw20_ShotBack.j0 k a1 l2 (!t248))))) else (wisplaw20_ShotBack.j0 k a1 l2 true)) else (wisplaw20_ShotBack.j0 k a1 l2 true)) else (wisplaw20_ShotBack.j0 k a1 l2 true)) else (wisplaw20_ShotBack.j0 k a1 l2 true)) else (wisplaw20_ShotBack.j0 k a1 l2 true)) else (wisplaw20_ShotBack.j0 k a1 l2 true)) else (wisplaw20_ShotBack.j0 k a1 l2 true))))) = some r := H
  have A5 := Aside0.mk A50
  clear A50
  replace H := Option.bind_eq_some_iff.mp H
  obtain ⟨⟨t236, t237⟩, A60, H⟩ := H
  replace H : ((shot_Read.f k t234).bind fun bt240 => ((shot_Unpack.f k t236).bind fun bt244 => (if t235 = 0 then (if t237 = 0 then (if bt240.2 = 0 then (if bt244.2 = 0 then (if (strOfNums bt240.1).toList = (strOfNums t231).toList then (if (strOfNums bt244.1).toList = (strOfNums t231).toList then (if (t234.size : Int) = 6192 then (if (t236.length : Int) < 24 then (wisplaw20_ShotBack.j0 k a1 l2 true) else (if (t236.length : Int) > 6144 then (wisplaw20_ShotBack.j0 k a1 l2 true) else ((wisplaw20_fixed.f k).bind fun t248 => (wisplaw20_ShotBack.j0 k a1 l2 (!t248))))) else (wisplaw20_ShotBack.j0 k a1 l2 true)) else (wisplaw20_ShotBack.j0 k a1 l2 true)) else (wisplaw20_ShotBack.j0 k a1 l2 true)) else (wisplaw20_ShotBack.j0 k a1 l2 true)) else (wisplaw20_ShotBack.j0 k a1 l2 true)) else (wisplaw20_ShotBack.j0 k a1 l2 true)) else (wisplaw20_ShotBack.j0 k a1 l2 true)))) = some r := H
  have A6 := Aside0.mk A60
  clear A60
  replace H := Option.bind_eq_some_iff.mp H
  obtain ⟨⟨t240, t241⟩, A70, H⟩ := H
  replace H : ((shot_Unpack.f k t236).bind fun bt244 => (if t235 = 0 then (if t237 = 0 then (if t241 = 0 then (if bt244.2 = 0 then (if (strOfNums t240).toList = (strOfNums t231).toList then (if (strOfNums bt244.1).toList = (strOfNums t231).toList then (if (t234.size : Int) = 6192 then (if (t236.length : Int) < 24 then (wisplaw20_ShotBack.j0 k a1 l2 true) else (if (t236.length : Int) > 6144 then (wisplaw20_ShotBack.j0 k a1 l2 true) else ((wisplaw20_fixed.f k).bind fun t248 => (wisplaw20_ShotBack.j0 k a1 l2 (!t248))))) else (wisplaw20_ShotBack.j0 k a1 l2 true)) else (wisplaw20_ShotBack.j0 k a1 l2 true)) else (wisplaw20_ShotBack.j0 k a1 l2 true)) else (wisplaw20_ShotBack.j0 k a1 l2 true)) else (wisplaw20_ShotBack.j0 k a1 l2 true)) else (wisplaw20_ShotBack.j0 k a1 l2 true)) else (wisplaw20_ShotBack.j0 k a1 l2 true))) = some r := H
  have A7 := Aside0.mk A70
  clear A70
  replace H := Option.bind_eq_some_iff.mp H
  obtain ⟨⟨t244, t245⟩, A80, H⟩ := H
  replace H : (if t235 = 0 then (if t237 = 0 then (if t241 = 0 then (if t245 = 0 then (if (strOfNums t240).toList = (strOfNums t231).toList then (if (strOfNums t244).toList = (strOfNums t231).toList then (if (t234.size : Int) = 6192 then (if (t236.length : Int) < 24 then (wisplaw20_ShotBack.j0 k a1 l2 true) else (if (t236.length : Int) > 6144 then (wisplaw20_ShotBack.j0 k a1 l2 true) else ((wisplaw20_fixed.f k).bind fun t248 => (wisplaw20_ShotBack.j0 k a1 l2 (!t248))))) else (wisplaw20_ShotBack.j0 k a1 l2 true)) else (wisplaw20_ShotBack.j0 k a1 l2 true)) else (wisplaw20_ShotBack.j0 k a1 l2 true)) else (wisplaw20_ShotBack.j0 k a1 l2 true)) else (wisplaw20_ShotBack.j0 k a1 l2 true)) else (wisplaw20_ShotBack.j0 k a1 l2 true)) else (wisplaw20_ShotBack.j0 k a1 l2 true)) = some r := H
  have A8 := Aside0.mk A80
  clear A80
  have HC9 := Aside0.mk H
  clear H
  go_enter Try.func8, Try.ntmps8
  go_upto_region 6 with (first | ((with_reducible refine gate_callee (f := 24) rfl ?_); refine goesL_ (some 21) rfl rfl Try.func24 (by kernel_rfl) rfl #[.slice A0 l0.length c0] rfl (by (try simp only [List.map_toArray, List.map_cons, List.map_nil]); first | done | rfl | (simp only [List.length_drop, List.length_take]; rfl)) ?_; (with_reducible refine (wisplaw20_screen.calls k _ _ l0 t231 _ ?side1 ?side2 A4.out).mono ?_); (case side1 => repeat (first | exact HR0.out | (with_reducible refine Kd.C_alloc ?_ _) | (with_reducible refine Kd.C_drewN ?_ _) | (with_reducible refine Kd.C_drew ?_))); (case side2 => exact HC0.out); rintro e w10 ⟨v232, rfl, ho0, hb⟩; refine ⟨_, rfl, ?_⟩; have n0_ := Aside0.mk (Kd.R_lower ho0 (below_size (by repeat (first | (with_reducible first | exact HB.out | apply below_alloc | apply pw_below_drewN | apply below_drew1) | exact HB.out)))); have n1_ := Aside0.mk (below_step (by repeat (first | (with_reducible first | exact HB.out | apply below_alloc | apply pw_below_drewN | apply below_drew1) | exact HB.out)) hb); clear HB; have HO233 := n0_; have HB := n1_; clear n0_ n1_; (try clear hb); (try clear hb2); (try clear hk); (try clear hi); (try clear ho0); obtain ⟨Ao11, co11, eo11⟩ := Kd.R_slice HO233.out; subst eo11) | ((with_reducible refine gate_callee (f := 20) rfl ?_); refine goesL_ (some 24) rfl rfl Try.func20 (by kernel_rfl) rfl #[.slice Ao11 t231.length co11] rfl (by (try simp only [List.map_toArray, List.map_cons, List.map_nil]); first | done | rfl | (simp only [List.length_drop, List.length_take]; rfl)) ?_; (with_reducible refine (shot_Art.calls k _ _ t231 t234 t235 _ ?side1 ?side2 A5.out).mono ?_); (case side1 => repeat (first | exact (Kd.R_reads' HO233.out).2.2 | (with_reducible refine Kd.C_alloc ?_ _) | (with_reducible refine Kd.C_drewN ?_ _) | (with_reducible refine Kd.C_drew ?_))); (case side2 => exact (Kd.R_reads' HO233.out).2.1); rintro e w12 ⟨rfl, hb⟩; refine ⟨_, rfl, ?_⟩; have n0_ := Aside0.mk (Kd.R_below (by (with_reducible repeat (first | apply Kd.R_alloc | apply Kd.R_drewN | apply Kd.R_drew)); exact HO233.out) hb); have n1_ := Aside0.mk (below_step (by repeat (first | (with_reducible first | exact HB.out | apply below_alloc | apply pw_below_drewN | apply below_drew1) | exact HB.out)) hb); clear HO233; clear HB; have HO233 := n0_; have HB := n1_; clear n0_ n1_; (try clear hb); (try clear hb2); (try clear hk); (try clear hi)) | ((with_reducible refine gate_callee (f := 25) rfl ?_); refine goesL_ (some 29) rfl rfl Try.func25 (by kernel_rfl) rfl #[.slice Ao11 t231.length co11] rfl (by (try simp only [List.map_toArray, List.map_cons, List.map_nil]); first | done | rfl | (simp only [List.length_drop, List.length_take]; rfl)) ?_; (with_reducible refine (shot_Pack.calls _ _ t231 t236 t237 _ ?side1 ?side2 A6.out).mono ?_); (case side1 => repeat (first | exact (Kd.R_reads' HO233.out).2.2 | (with_reducible refine Kd.C_alloc ?_ _) | (with_reducible refine Kd.C_drewN ?_ _) | (with_reducible refine Kd.C_drew ?_))); (case side2 => exact (Kd.R_reads' HO233.out).2.1); rintro e w13 ⟨v238, rfl, ho0, hb⟩; refine ⟨_, rfl, ?_⟩; have n0_ := Aside0.mk (Kd.R_elder' (by (with_reducible repeat (first | apply Kd.R_alloc | apply Kd.R_drewN | apply Kd.R_drew)); exact HO233.out) (Kd.R_base ho0) hb); have n1_ := Aside0.mk (Kd.R_lower (Kd.R_new' ho0 (Kd.R_lt (by (with_reducible repeat (first | apply Kd.R_alloc | apply Kd.R_drewN | apply Kd.R_drew)); exact HO233.out))) (below_size (by repeat (first | (with_reducible first | exact HB.out | apply below_alloc | apply pw_below_drewN | apply below_drew1) | exact HB.out)))); have n2_ := Aside0.mk (below_step (by repeat (first | (with_reducible first | exact HB.out | apply below_alloc | apply pw_below_drewN | apply below_drew1) | exact HB.out)) hb); clear HO233; clear HB; have HO233 := n0_; have HO239 := n1_; have HB := n2_; clear n0_ n1_ n2_; (try clear hb); (try clear hb2); (try clear hk); (try clear hi); (try clear ho0)) | ((with_reducible refine gate_callee (f := 22) rfl ?_); refine goesL_ (some 34) rfl rfl Try.func22 (by kernel_rfl) rfl #[.string t234] rfl (by (try simp only [List.map_toArray, List.map_cons, List.map_nil]); first | done | rfl | (simp only [List.length_drop, List.length_take]; rfl)) ?_; (with_reducible refine (shot_Read.calls k t234 t240 t241 _ A7.out).mono ?_); rintro e w14 ⟨v242, rfl, ho0, hb⟩; refine ⟨_, rfl, ?_⟩; have n0_ := Aside0.mk (Kd.R_elder' (by (with_reducible repeat (first | apply Kd.R_alloc | apply Kd.R_drewN | apply Kd.R_drew)); exact HO233.out) (Kd.R_base ho0) hb); have n1_ := Aside0.mk (Kd.R_elder' (by (with_reducible repeat (first | apply Kd.R_alloc | apply Kd.R_drewN | apply Kd.R_drew)); exact HO239.out) (Kd.R_base ho0) hb); have n2_ := Aside0.mk (Kd.R_lower (Kd.R_new' (Kd.R_new' ho0 (Kd.R_lt (by (with_reducible repeat (first | apply Kd.R_alloc | apply Kd.R_drewN | apply Kd.R_drew)); exact HO233.out))) (Kd.R_lt (by (with_reducible repeat (first | apply Kd.R_alloc | apply Kd.R_drewN | apply Kd.R_drew)); exact HO239.out))) (below_size (by repeat (first | (with_reducible first | exact HB.out | apply below_alloc | apply pw_below_drewN | apply below_drew1) | exact HB.out)))); have n3_ := Aside0.mk (below_step (by repeat (first | (with_reducible first | exact HB.out | apply below_alloc | apply pw_below_drewN | apply below_drew1) | exact HB.out)) hb); clear HO233; clear HO239; clear HB; have HO233 := n0_; have HO239 := n1_; have HO243 := n2_; have HB := n3_; clear n0_ n1_ n2_ n3_; (try clear hb); (try clear hb2); (try clear hk); (try clear hi); (try clear ho0); obtain ⟨Ao15, co15, eo15⟩ := Kd.R_slice HO239.out; subst eo15) | ((with_reducible refine gate_callee (f := 27) rfl ?_); refine goesL_ (some 39) rfl rfl Try.func27 (by kernel_rfl) rfl #[.slice Ao15 t236.length co15] rfl (by (try simp only [List.map_toArray, List.map_cons, List.map_nil]); first | done | rfl | (simp only [List.length_drop, List.length_take]; rfl)) ?_; (with_reducible refine (shot_Unpack.calls k _ _ t236 t244 t245 _ ?side1 ?side2 A8.out).mono ?_); (case side1 => repeat (first | exact (Kd.R_reads' HO239.out).2.2 | (with_reducible refine Kd.C_alloc ?_ _) | (with_reducible refine Kd.C_drewN ?_ _) | (with_reducible refine Kd.C_drew ?_))); (case side2 => exact (Kd.R_reads' HO239.out).2.1); rintro e w16 ⟨v246, rfl, ho0, hb⟩; refine ⟨_, rfl, ?_⟩; have n0_ := Aside0.mk (Kd.R_elder' (by (with_reducible repeat (first | apply Kd.R_alloc | apply Kd.R_drewN | apply Kd.R_drew)); exact HO233.out) (Kd.R_base ho0) hb); have n1_ := Aside0.mk (Kd.R_elder' (by (with_reducible repeat (first | apply Kd.R_alloc | apply Kd.R_drewN | apply Kd.R_drew)); exact HO239.out) (Kd.R_base ho0) hb); have n2_ := Aside0.mk (Kd.R_elder' (by (with_reducible repeat (first | apply Kd.R_alloc | apply Kd.R_drewN | apply Kd.R_drew)); exact HO243.out) (Kd.R_base ho0) hb); have n3_ := Aside0.mk (Kd.R_lower (Kd.R_new' (Kd.R_new' (Kd.R_new' ho0 (Kd.R_lt (by (with_reducible repeat (first | apply Kd.R_alloc | apply Kd.R_drewN | apply Kd.R_drew)); exact HO233.out))) (Kd.R_lt (by (with_reducible repeat (first | apply Kd.R_alloc | apply Kd.R_drewN | apply Kd.R_drew)); exact HO239.out))) (Kd.R_lt (by (with_reducible repeat (first | apply Kd.R_alloc | apply Kd.R_drewN | apply Kd.R_drew)); exact HO243.out))) (below_size (by repeat (first | (with_reducible first | exact HB.out | apply below_alloc | apply pw_below_drewN | apply below_drew1) | exact HB.out)))); have n4_ := Aside0.mk (below_step (by repeat (first | (with_reducible first | exact HB.out | apply below_alloc | apply pw_below_drewN | apply below_drew1) | exact HB.out)) hb); clear HO233; clear HO239; clear HO243; clear HB; have HO233 := n0_; have HO239 := n1_; have HO243 := n2_; have HO247 := n3_; have HB := n4_; clear n0_ n1_ n2_ n3_ n4_; (try clear hb); (try clear hb2); (try clear hk); (try clear hi); (try clear ho0)))
  (try simp only [Act.put, List.setIfInBounds_toArray, List.set_cons_zero, List.set_cons_succ])
  go_cut [88] (fun v88 wc => ∃ (kq : Nat) (x88_8 : Bool), v88 = .bool x88_8 ∧ Aside0 (wisplaw20_ShotBack.j0 kq a1 l2 x88_8 = some r) ∧ Aside0 (kq ≤ k) ∧ Aside0 (Below w.heap.size w wc))
  case first =>
    have H := HC9.out
    clear HC9
    by_cases c17 : t235 = 0
    · rw [if_pos c17] at H
      have c17b0 : (t235 == 0) = true := beq_iff_eq.mpr c17
      have c17b1 : (t235 != 0) = false := bne_eq_false_iff_eq.mpr c17
      clear c17
      (first | rw [c17b0] | (simp only [i64_w, i32_w]; rw [c17b0]) | skip)
      by_cases c18 : t237 = 0
      · rw [if_pos c18] at H
        have c18b0 : (t237 == 0) = true := beq_iff_eq.mpr c18
        have c18b1 : (t237 != 0) = false := bne_eq_false_iff_eq.mpr c18
        clear c18
        by_cases c19 : t241 = 0
        · rw [if_pos c19] at H
          have c19b0 : (t241 == 0) = true := beq_iff_eq.mpr c19
          have c19b1 : (t241 != 0) = false := bne_eq_false_iff_eq.mpr c19
          clear c19
          by_cases c20 : t245 = 0
          · rw [if_pos c20] at H
            have c20b0 : (t245 == 0) = true := beq_iff_eq.mpr c20
            have c20b1 : (t245 != 0) = false := bne_eq_false_iff_eq.mpr c20
            clear c20
            by_cases c21 : (strOfNums t240).toList = (strOfNums t231).toList
            · rw [if_pos c21] at H
              have c21b0 : ((strOfNums t240).toList == (strOfNums t231).toList) = true := beq_iff_eq.mpr c21
              have c21b1 : ((strOfNums t240).toList != (strOfNums t231).toList) = false := bne_eq_false_iff_eq.mpr c21
              clear c21
              by_cases c22 : (strOfNums t244).toList = (strOfNums t231).toList
              · rw [if_pos c22] at H
                have c22b0 : ((strOfNums t244).toList == (strOfNums t231).toList) = true := beq_iff_eq.mpr c22
                have c22b1 : ((strOfNums t244).toList != (strOfNums t231).toList) = false := bne_eq_false_iff_eq.mpr c22
                clear c22
                by_cases c23 : (t234.size : Int) = 6192
                · rw [if_pos c23] at H
                  have c23b0 : ((t234.size : Int) == 6192) = true := beq_iff_eq.mpr c23
                  have c23b1 : ((t234.size : Int) != 6192) = false := bne_eq_false_iff_eq.mpr c23
                  clear c23
                  by_cases c24 : (t236.length : Int) < 24
                  · rw [if_pos c24] at H
                    have c24b0 : decide ((t236.length : Int) < 24) = true := decide_eq_true c24
                    have c24b1 : decide (t236.length < 24) = true := decide_eq_true (by omega)
                    clear c24
                    as_aux_lemma =>
                      have H' := Aside0.mk H
                      clear H
                      have hcv25 := own_string (P := Try.prog) Try.underlying22 Try.underlying5 Try.underlying9 (Kd.own_of_R HO243.out)
                      have hcv26 := own_string (P := Try.prog) Try.underlying22 Try.underlying5 Try.underlying9 (Kd.own_of_R HO233.out)
                      have hcv27 := own_string (P := Try.prog) Try.underlying22 Try.underlying5 Try.underlying9 (Kd.own_of_R HO247.out)
                      have hcv28 := own_string (P := Try.prog) Try.underlying22 Try.underlying5 Try.underlying9 (Kd.own_of_R HO233.out)
                      go_wp2
                      go_meet
                      case rel => exact ⟨_, (true), (by first | rfl | (simp; done) | (simp [*]; done) | (simp [isEmpty_ne]; done)), H', ⟨by first | omega | exact Nat.le_refl _⟩, ⟨by repeat (first | (with_reducible first | exact HB.out | apply below_alloc | apply pw_below_drewN | apply below_drew1) | exact HB.out)⟩⟩
                  · rw [if_neg c24] at H
                    have c24b0 : decide ((t236.length : Int) < 24) = false := decide_eq_false c24
                    have c24b1 : decide (t236.length < 24) = false := decide_eq_false (by omega)
                    clear c24
                    by_cases c29 : (t236.length : Int) > 6144
                    · rw [if_pos c29] at H
                      have c29b0 : decide (6144 < (t236.length : Int)) = true := decide_eq_true c29
                      have c29b1 : decide (6144 < t236.length) = true := decide_eq_true (by omega)
                      clear c29
                      as_aux_lemma =>
                        have H' := Aside0.mk H
                        clear H
                        have hcv30 := own_string (P := Try.prog) Try.underlying22 Try.underlying5 Try.underlying9 (Kd.own_of_R HO243.out)
                        have hcv31 := own_string (P := Try.prog) Try.underlying22 Try.underlying5 Try.underlying9 (Kd.own_of_R HO233.out)
                        have hcv32 := own_string (P := Try.prog) Try.underlying22 Try.underlying5 Try.underlying9 (Kd.own_of_R HO247.out)
                        have hcv33 := own_string (P := Try.prog) Try.underlying22 Try.underlying5 Try.underlying9 (Kd.own_of_R HO233.out)
                        go_wp2
                        go_meet
                        case rel => exact ⟨_, (true), (by first | rfl | (simp; done) | (simp [*]; done) | (simp [isEmpty_ne]; done)), H', ⟨by first | omega | exact Nat.le_refl _⟩, ⟨by repeat (first | (with_reducible first | exact HB.out | apply below_alloc | apply pw_below_drewN | apply below_drew1) | exact HB.out)⟩⟩
                    · rw [if_neg c29] at H
                      have c29b0 : decide (6144 < (t236.length : Int)) = false := decide_eq_false c29
                      have c29b1 : decide (6144 < t236.length) = false := decide_eq_false (by omega)
                      clear c29
                      replace H := Option.bind_eq_some_iff.mp H
                      obtain ⟨t248, A340, H⟩ := H
                      replace H : (wisplaw20_ShotBack.j0 k a1 l2 (!t248)) = some r := H
                      have A34 := Aside0.mk A340
                      clear A340
                      as_aux_lemma =>
                        have H' := Aside0.mk H
                        clear H
                        have hcv35 := own_string (P := Try.prog) Try.underlying22 Try.underlying5 Try.underlying9 (Kd.own_of_R HO243.out)
                        have hcv36 := own_string (P := Try.prog) Try.underlying22 Try.underlying5 Try.underlying9 (Kd.own_of_R HO233.out)
                        have hcv37 := own_string (P := Try.prog) Try.underlying22 Try.underlying5 Try.underlying9 (Kd.own_of_R HO247.out)
                        have hcv38 := own_string (P := Try.prog) Try.underlying22 Try.underlying5 Try.underlying9 (Kd.own_of_R HO233.out)
                        go_wp2_with (first | (go_at_call 9; (with_reducible refine (wisplaw20_fixed.calls k  t248 _ A34.out).mono ?_); rintro e w39 ⟨rfl, hb⟩; have n0_ := Aside0.mk (Kd.R_below (by (with_reducible repeat (first | apply Kd.R_alloc | apply Kd.R_drewN | apply Kd.R_drew)); exact HO233.out) hb); have n1_ := Aside0.mk (Kd.R_below (by (with_reducible repeat (first | apply Kd.R_alloc | apply Kd.R_drewN | apply Kd.R_drew)); exact HO239.out) hb); have n2_ := Aside0.mk (Kd.R_below (by (with_reducible repeat (first | apply Kd.R_alloc | apply Kd.R_drewN | apply Kd.R_drew)); exact HO243.out) hb); have n3_ := Aside0.mk (Kd.R_below (by (with_reducible repeat (first | apply Kd.R_alloc | apply Kd.R_drewN | apply Kd.R_drew)); exact HO247.out) hb); have n4_ := Aside0.mk (below_step (by repeat (first | (with_reducible first | exact HB.out | apply below_alloc | apply pw_below_drewN | apply below_drew1) | exact HB.out)) hb); clear HO233; clear HO239; clear HO243; clear HO247; clear HB; have HO233 := n0_; have HO239 := n1_; have HO243 := n2_; have HO247 := n3_; have HB := n4_; clear n0_ n1_ n2_ n3_ n4_; (try clear hb); (try clear hb2); (try clear hk); (try clear hi)))
                        go_meet
                        case rel => exact ⟨_, (!t248), (by first | rfl | (simp; done) | (simp [*]; done) | (simp [isEmpty_ne]; done)), H', ⟨by first | omega | exact Nat.le_refl _⟩, ⟨by repeat (first | (with_reducible first | exact HB.out | apply below_alloc | apply pw_below_drewN | apply below_drew1) | exact HB.out)⟩⟩
                · rw [if_neg c23] at H
                  have c23b0 : ((t234.size : Int) == 6192) = false := beq_eq_false_iff_ne.mpr c23
                  have c23b1 : ((t234.size : Int) != 6192) = true := bne_iff_ne.mpr c23
                  as_aux_lemma =>
                    have H' := Aside0.mk H
                    clear H
                    have hcv40 := own_string (P := Try.prog) Try.underlying22 Try.underlying5 Try.underlying9 (Kd.own_of_R HO243.out)
                    have hcv41 := own_string (P := Try.prog) Try.underlying22 Try.underlying5 Try.underlying9 (Kd.own_of_R HO233.out)
                    have hcv42 := own_string (P := Try.prog) Try.underlying22 Try.underlying5 Try.underlying9 (Kd.own_of_R HO247.out)
                    have hcv43 := own_string (P := Try.prog) Try.underlying22 Try.underlying5 Try.underlying9 (Kd.own_of_R HO233.out)
                    go_wp2
                    go_meet
                    case rel => exact ⟨_, (true), (by first | rfl | (simp; done) | (simp [*]; done) | (simp [isEmpty_ne]; done)), H', ⟨by first | omega | exact Nat.le_refl _⟩, ⟨by repeat (first | (with_reducible first | exact HB.out | apply below_alloc | apply pw_below_drewN | apply below_drew1) | exact HB.out)⟩⟩
              · rw [if_neg c22] at H
                have c22b0 : ((strOfNums t244).toList == (strOfNums t231).toList) = false := beq_eq_false_iff_ne.mpr c22
                have c22b1 : ((strOfNums t244).toList != (strOfNums t231).toList) = true := bne_iff_ne.mpr c22
                as_aux_lemma =>
                  have H' := Aside0.mk H
                  clear H
                  have hcv44 := own_string (P := Try.prog) Try.underlying22 Try.underlying5 Try.underlying9 (Kd.own_of_R HO243.out)
                  have hcv45 := own_string (P := Try.prog) Try.underlying22 Try.underlying5 Try.underlying9 (Kd.own_of_R HO233.out)
                  have hcv46 := own_string (P := Try.prog) Try.underlying22 Try.underlying5 Try.underlying9 (Kd.own_of_R HO247.out)
                  have hcv47 := own_string (P := Try.prog) Try.underlying22 Try.underlying5 Try.underlying9 (Kd.own_of_R HO233.out)
                  go_wp2
                  go_meet
                  case rel => exact ⟨_, (true), (by first | rfl | (simp; done) | (simp [*]; done) | (simp [isEmpty_ne]; done)), H', ⟨by first | omega | exact Nat.le_refl _⟩, ⟨by repeat (first | (with_reducible first | exact HB.out | apply below_alloc | apply pw_below_drewN | apply below_drew1) | exact HB.out)⟩⟩
            · rw [if_neg c21] at H
              have c21b0 : ((strOfNums t240).toList == (strOfNums t231).toList) = false := beq_eq_false_iff_ne.mpr c21
              have c21b1 : ((strOfNums t240).toList != (strOfNums t231).toList) = true := bne_iff_ne.mpr c21
              as_aux_lemma =>
                have H' := Aside0.mk H
                clear H
                have hcv48 := own_string (P := Try.prog) Try.underlying22 Try.underlying5 Try.underlying9 (Kd.own_of_R HO243.out)
                have hcv49 := own_string (P := Try.prog) Try.underlying22 Try.underlying5 Try.underlying9 (Kd.own_of_R HO233.out)
                go_wp2
                go_meet
                case rel => exact ⟨_, (true), (by first | rfl | (simp; done) | (simp [*]; done) | (simp [isEmpty_ne]; done)), H', ⟨by first | omega | exact Nat.le_refl _⟩, ⟨by repeat (first | (with_reducible first | exact HB.out | apply below_alloc | apply pw_below_drewN | apply below_drew1) | exact HB.out)⟩⟩
          · rw [if_neg c20] at H
            have c20b0 : (t245 == 0) = false := beq_eq_false_iff_ne.mpr c20
            have c20b1 : (t245 != 0) = true := bne_iff_ne.mpr c20
            as_aux_lemma =>
              have H' := Aside0.mk H
              clear H
              go_wp2
              go_meet
              case rel => exact ⟨_, (true), (by first | rfl | (simp; done) | (simp [*]; done) | (simp [isEmpty_ne]; done)), H', ⟨by first | omega | exact Nat.le_refl _⟩, ⟨by repeat (first | (with_reducible first | exact HB.out | apply below_alloc | apply pw_below_drewN | apply below_drew1) | exact HB.out)⟩⟩
        · rw [if_neg c19] at H
          have c19b0 : (t241 == 0) = false := beq_eq_false_iff_ne.mpr c19
          have c19b1 : (t241 != 0) = true := bne_iff_ne.mpr c19
          as_aux_lemma =>
            have H' := Aside0.mk H
            clear H
            go_wp2
            go_meet
            case rel => exact ⟨_, (true), (by first | rfl | (simp; done) | (simp [*]; done) | (simp [isEmpty_ne]; done)), H', ⟨by first | omega | exact Nat.le_refl _⟩, ⟨by repeat (first | (with_reducible first | exact HB.out | apply below_alloc | apply pw_below_drewN | apply below_drew1) | exact HB.out)⟩⟩
      · rw [if_neg c18] at H
        have c18b0 : (t237 == 0) = false := beq_eq_false_iff_ne.mpr c18
        have c18b1 : (t237 != 0) = true := bne_iff_ne.mpr c18
        as_aux_lemma =>
          have H' := Aside0.mk H
          clear H
          go_wp2
          go_meet
          case rel => exact ⟨_, (true), (by first | rfl | (simp; done) | (simp [*]; done) | (simp [isEmpty_ne]; done)), H', ⟨by first | omega | exact Nat.le_refl _⟩, ⟨by repeat (first | (with_reducible first | exact HB.out | apply below_alloc | apply pw_below_drewN | apply below_drew1) | exact HB.out)⟩⟩
    · rw [if_neg c17] at H
      have c17b0 : (t235 == 0) = false := beq_eq_false_iff_ne.mpr c17
      have c17b1 : (t235 != 0) = true := bne_iff_ne.mpr c17
      (first | rw [c17b0] | (simp only [i64_w, i32_w]; rw [c17b0]) | skip)
      as_aux_lemma =>
        have H' := Aside0.mk H
        clear H
        go_wp2
        go_meet
        case rel => exact ⟨_, (true), (by first | rfl | (simp; done) | (simp [*]; done) | (simp [isEmpty_ne]; done)), H', ⟨by first | omega | exact Nat.le_refl _⟩, ⟨by repeat (first | (with_reducible first | exact HB.out | apply below_alloc | apply pw_below_drewN | apply below_drew1) | exact HB.out)⟩⟩
  case rest =>
    clear HC9
    try clear c1
    try clear c2
    try clear p2
    try clear hcv2
    try clear hcv3
    try clear hcv4
    try clear c8
    try clear c17
    try clear c17b0
    try clear c17b1
    try clear c18
    try clear c18b0
    try clear c18b1
    try clear c19
    try clear c19b0
    try clear c19b1
    try clear c20
    try clear c20b0
    try clear c20b1
    try clear c21
    try clear c21b0
    try clear c21b1
    try clear c22
    try clear c22b0
    try clear c22b1
    try clear c23
    try clear c23b0
    try clear c23b1
    try clear c24
    try clear c24b0
    try clear c24b1
    try clear c25
    try clear hcv25
    try clear hcv26
    try clear c27
    try clear hcv27
    try clear hcv28
    try clear c29
    try clear c29b0
    try clear c29b1
    try clear hcv30
    try clear hcv31
    try clear hcv32
    try clear hcv33
    try clear hcv35
    try clear hcv36
    try clear hcv37
    try clear hcv38
    try clear hcv40
    try clear hcv41
    try clear hcv42
    try clear hcv43
    try clear hcv44
    try clear hcv45
    try clear hcv46
    try clear hcv47
    try clear hcv48
    try clear hcv49
    obtain ⟨kq, x88_8, rfl, HA, HJ8, HB⟩ := hcut
    cases kq with
    | zero => exact absurd HA.out (by simp [wisplaw20_ShotBack.j0])
    | succ kj8 =>
      have H := HA.out
      clear HA
      simp only [wisplaw20_ShotBack.j0] at H
      by_cases c50 : x88_8 = true
      · subst c50
        have H1 : (some false) = some r := by rw [if_pos rfl] at H; exact H
        clear H
        have H := H1
        clear H1
        as_aux_lemma =>
          obtain rfl := Option.some.inj H
          go_wp2
          go_ret
          exact ⟨by first | rfl | (simp [errW_none, errW_some] <;> rfl) | (simp [*, errW_none, errW_some] <;> rfl), by repeat (first | (with_reducible first | exact HB.out | apply below_alloc | apply pw_below_drewN | apply below_drew1) | exact HB.out)⟩
      · replace c50 := Bool.eq_false_iff.mpr c50
        subst c50
        have H1 : ((shot_Read.f kj8 a1).bind fun bt249 => ((shot_Unpack.f kj8 l2).bind fun bt253 => (if bt249.2 = 0 then (if bt253.2 = 0 then (wisplaw20_ShotBack.j1 kj8 a1 l2 bt249.1 bt249.2 bt253.1 bt253.2 false) else (if bt253.2 = 2 then (wisplaw20_ShotBack.j1 kj8 a1 l2 bt249.1 bt249.2 bt253.1 bt253.2 ((bt253.1.length : Int) != 0)) else (wisplaw20_ShotBack.j1 kj8 a1 l2 bt249.1 bt249.2 bt253.1 bt253.2 true))) else (if bt249.2 = 2 then (if (bt249.1.length : Int) = 0 then (if bt253.2 = 0 then (wisplaw20_ShotBack.j1 kj8 a1 l2 bt249.1 bt249.2 bt253.1 bt253.2 false) else (if bt253.2 = 2 then (wisplaw20_ShotBack.j1 kj8 a1 l2 bt249.1 bt249.2 bt253.1 bt253.2 ((bt253.1.length : Int) != 0)) else (wisplaw20_ShotBack.j1 kj8 a1 l2 bt249.1 bt249.2 bt253.1 bt253.2 true))) else (wisplaw20_ShotBack.j1 kj8 a1 l2 bt249.1 bt249.2 bt253.1 bt253.2 true)) else (wisplaw20_ShotBack.j1 kj8 a1 l2 bt249.1 bt249.2 bt253.1 bt253.2 true))))) = some r := by rw [if_neg (show ¬ (false = true) by decide)] at H; exact H
        clear H
        have H := H1
        clear H1
        replace H := Option.bind_eq_some_iff.mp H
        obtain ⟨⟨t249, t250⟩, A510, H⟩ := H
        replace H : ((shot_Unpack.f kj8 l2).bind fun bt253 => (if t250 = 0 then (if bt253.2 = 0 then (wisplaw20_ShotBack.j1 kj8 a1 l2 t249 t250 bt253.1 bt253.2 false) else (if bt253.2 = 2 then (wisplaw20_ShotBack.j1 kj8 a1 l2 t249 t250 bt253.1 bt253.2 ((bt253.1.length : Int) != 0)) else (wisplaw20_ShotBack.j1 kj8 a1 l2 t249 t250 bt253.1 bt253.2 true))) else (if t250 = 2 then (if (t249.length : Int) = 0 then (if bt253.2 = 0 then (wisplaw20_ShotBack.j1 kj8 a1 l2 t249 t250 bt253.1 bt253.2 false) else (if bt253.2 = 2 then (wisplaw20_ShotBack.j1 kj8 a1 l2 t249 t250 bt253.1 bt253.2 ((bt253.1.length : Int) != 0)) else (wisplaw20_ShotBack.j1 kj8 a1 l2 t249 t250 bt253.1 bt253.2 true))) else (wisplaw20_ShotBack.j1 kj8 a1 l2 t249 t250 bt253.1 bt253.2 true)) else (wisplaw20_ShotBack.j1 kj8 a1 l2 t249 t250 bt253.1 bt253.2 true)))) = some r := H
        have A51 := Aside0.mk A510
        clear A510
        replace H := Option.bind_eq_some_iff.mp H
        obtain ⟨⟨t253, t254⟩, A520, H⟩ := H
        replace H : (if t250 = 0 then (if t254 = 0 then (wisplaw20_ShotBack.j1 kj8 a1 l2 t249 t250 t253 t254 false) else (if t254 = 2 then (wisplaw20_ShotBack.j1 kj8 a1 l2 t249 t250 t253 t254 ((t253.length : Int) != 0)) else (wisplaw20_ShotBack.j1 kj8 a1 l2 t249 t250 t253 t254 true))) else (if t250 = 2 then (if (t249.length : Int) = 0 then (if t254 = 0 then (wisplaw20_ShotBack.j1 kj8 a1 l2 t249 t250 t253 t254 false) else (if t254 = 2 then (wisplaw20_ShotBack.j1 kj8 a1 l2 t249 t250 t253 t254 ((t253.length : Int) != 0)) else (wisplaw20_ShotBack.j1 kj8 a1 l2 t249 t250 t253 t254 true))) else (wisplaw20_ShotBack.j1 kj8 a1 l2 t249 t250 t253 t254 true)) else (wisplaw20_ShotBack.j1 kj8 a1 l2 t249 t250 t253 t254 true))) = some r := H
        have A52 := Aside0.mk A520
        clear A520
        have HC53 := Aside0.mk H
        clear H
        go_upto_region 10 with (first | ((with_reducible refine gate_callee (f := 22) rfl ?_); refine goesL_ (some 91) rfl rfl Try.func22 (by kernel_rfl) rfl #[.string a1] rfl (by (try simp only [List.map_toArray, List.map_cons, List.map_nil]); first | done | rfl | (simp only [List.length_drop, List.length_take]; rfl)) ?_; (with_reducible refine (shot_Read.calls kj8 a1 t249 t250 _ A51.out).mono ?_); rintro e w54 ⟨v251, rfl, ho0, hb⟩; refine ⟨_, rfl, ?_⟩; have n0_ := Aside0.mk (Kd.R_lower ho0 (below_size (by repeat (first | (with_reducible first | exact HB.out | apply below_alloc | apply pw_below_drewN | apply below_drew1) | exact HB.out)))); have n1_ := Aside0.mk (below_step (by repeat (first | (with_reducible first | exact HB.out | apply below_alloc | apply pw_below_drewN | apply below_drew1) | exact HB.out)) hb); clear HB; have HO252 := n0_; have HB := n1_; clear n0_ n1_; (try clear hb); (try clear hb2); (try clear hk); (try clear hi); (try clear ho0)) | ((with_reducible refine gate_callee (f := 27) rfl ?_); refine goesL_ (some 96) rfl rfl Try.func27 (by kernel_rfl) rfl #[.slice A2 l2.length c2] rfl (by (try simp only [List.map_toArray, List.map_cons, List.map_nil]); first | done | rfl | (simp only [List.length_drop, List.length_take]; rfl)) ?_; (with_reducible refine (shot_Unpack.calls kj8 _ _ l2 t253 t254 _ ?side1 ?side2 A52.out).mono ?_); (case side1 => repeat (first | exact (Kd.C_below HR2.out HB.out) | (with_reducible refine Kd.C_alloc ?_ _) | (with_reducible refine Kd.C_drewN ?_ _) | (with_reducible refine Kd.C_drew ?_))); (case side2 => exact HC2.out); rintro e w55 ⟨v255, rfl, ho0, hb⟩; refine ⟨_, rfl, ?_⟩; have n0_ := Aside0.mk (Kd.R_elder' (by (with_reducible repeat (first | apply Kd.R_alloc | apply Kd.R_drewN | apply Kd.R_drew)); exact HO252.out) (Kd.R_base ho0) hb); have n1_ := Aside0.mk (Kd.R_lower (Kd.R_new' ho0 (Kd.R_lt (by (with_reducible repeat (first | apply Kd.R_alloc | apply Kd.R_drewN | apply Kd.R_drew)); exact HO252.out))) (below_size (by repeat (first | (with_reducible first | exact HB.out | apply below_alloc | apply pw_below_drewN | apply below_drew1) | exact HB.out)))); have n2_ := Aside0.mk (below_step (by repeat (first | (with_reducible first | exact HB.out | apply below_alloc | apply pw_below_drewN | apply below_drew1) | exact HB.out)) hb); clear HO252; clear HB; have HO252 := n0_; have HO256 := n1_; have HB := n2_; clear n0_ n1_ n2_; (try clear hb); (try clear hb2); (try clear hk); (try clear hi); (try clear ho0)))
        (try simp only [Act.put, List.setIfInBounds_toArray, List.set_cons_zero, List.set_cons_succ])
        go_cut [122] (fun v122 wc => ∃ (kq : Nat) (x122_52 : Bool), v122 = .bool x122_52 ∧ Aside0 (wisplaw20_ShotBack.j1 kq a1 l2 t249 t250 t253 t254 x122_52 = some r) ∧ Aside0 (kq ≤ kj8) ∧ Aside0 (Kd.R (Kd.int .u8) 5 wc w.heap.size (fun k_ => some k_ ≠ (v255 : Value).ownBlock) v251 t249) ∧ Aside0 (Kd.R (Kd.int .u8) 5 wc w.heap.size (fun k_ => some k_ ≠ (v251 : Value).ownBlock) v255 t253) ∧ Aside0 (Below w.heap.size w wc))
        case first =>
          have H := HC53.out
          clear HC53
          by_cases c56 : t250 = 0
          · rw [if_pos c56] at H
            have c56b0 : (t250 == 0) = true := beq_iff_eq.mpr c56
            have c56b1 : (t250 != 0) = false := bne_eq_false_iff_eq.mpr c56
            clear c56
            (first | rw [c56b0] | (simp only [i64_w, i32_w]; rw [c56b0]) | skip)
            by_cases c57 : t254 = 0
            · rw [if_pos c57] at H
              have c57b0 : (t254 == 0) = true := beq_iff_eq.mpr c57
              have c57b1 : (t254 != 0) = false := bne_eq_false_iff_eq.mpr c57
              clear c57
              as_aux_lemma =>
                have H' := Aside0.mk H
                clear H
                go_wp2
                go_meet
                case rel => exact ⟨_, (false), (by first | rfl | (simp; done) | (simp [*]; done) | (simp [isEmpty_ne]; done)), H', ⟨by have := HJ8.out; first | omega | exact Nat.le_refl _⟩, ⟨by (with_reducible repeat (first | apply Kd.R_alloc | apply Kd.R_drewN | apply Kd.R_drew)); exact Kd.R_mono HO252.out (fun _ hk => hk.2)⟩, ⟨by (with_reducible repeat (first | apply Kd.R_alloc | apply Kd.R_drewN | apply Kd.R_drew)); exact Kd.R_mono HO256.out (fun _ hk => hk.2)⟩, ⟨by repeat (first | (with_reducible first | exact HB.out | apply below_alloc | apply pw_below_drewN | apply below_drew1) | exact HB.out)⟩⟩
            · rw [if_neg c57] at H
              have c57b0 : (t254 == 0) = false := beq_eq_false_iff_ne.mpr c57
              have c57b1 : (t254 != 0) = true := bne_iff_ne.mpr c57
              by_cases c58 : t254 = 2
              · rw [if_pos c58] at H
                have c58b0 : (t254 == 2) = true := beq_iff_eq.mpr c58
                have c58b1 : (t254 != 2) = false := bne_eq_false_iff_eq.mpr c58
                clear c58
                as_aux_lemma =>
                  have H' := Aside0.mk H
                  clear H
                  obtain ⟨Ao59, co59, eo59⟩ := Kd.R_slice HO256.out
                  subst eo59
                  go_wp2
                  go_meet
                  case rel => exact ⟨_, (((t253.length : Int) != 0)), (by first | rfl | (simp; done) | (simp [*]; done) | (simp [isEmpty_ne]; done)), H', ⟨by have := HJ8.out; first | omega | exact Nat.le_refl _⟩, ⟨by (with_reducible repeat (first | apply Kd.R_alloc | apply Kd.R_drewN | apply Kd.R_drew)); exact Kd.R_mono HO252.out (fun _ hk => hk.2)⟩, ⟨by (with_reducible repeat (first | apply Kd.R_alloc | apply Kd.R_drewN | apply Kd.R_drew)); exact Kd.R_mono HO256.out (fun _ hk => hk.2)⟩, ⟨by repeat (first | (with_reducible first | exact HB.out | apply below_alloc | apply pw_below_drewN | apply below_drew1) | exact HB.out)⟩⟩
              · rw [if_neg c58] at H
                have c58b0 : (t254 == 2) = false := beq_eq_false_iff_ne.mpr c58
                have c58b1 : (t254 != 2) = true := bne_iff_ne.mpr c58
                as_aux_lemma =>
                  have H' := Aside0.mk H
                  clear H
                  go_wp2
                  go_meet
                  case rel => exact ⟨_, (true), (by first | rfl | (simp; done) | (simp [*]; done) | (simp [isEmpty_ne]; done)), H', ⟨by have := HJ8.out; first | omega | exact Nat.le_refl _⟩, ⟨by (with_reducible repeat (first | apply Kd.R_alloc | apply Kd.R_drewN | apply Kd.R_drew)); exact Kd.R_mono HO252.out (fun _ hk => hk.2)⟩, ⟨by (with_reducible repeat (first | apply Kd.R_alloc | apply Kd.R_drewN | apply Kd.R_drew)); exact Kd.R_mono HO256.out (fun _ hk => hk.2)⟩, ⟨by repeat (first | (with_reducible first | exact HB.out | apply below_alloc | apply pw_below_drewN | apply below_drew1) | exact HB.out)⟩⟩
          · rw [if_neg c56] at H
            have c56b0 : (t250 == 0) = false := beq_eq_false_iff_ne.mpr c56
            have c56b1 : (t250 != 0) = true := bne_iff_ne.mpr c56
            (first | rw [c56b0] | (simp only [i64_w, i32_w]; rw [c56b0]) | skip)
            by_cases c60 : t250 = 2
            · rw [if_pos c60] at H
              have c60b0 : (t250 == 2) = true := beq_iff_eq.mpr c60
              have c60b1 : (t250 != 2) = false := bne_eq_false_iff_eq.mpr c60
              clear c60
              by_cases c61 : (t249.length : Int) = 0
              · rw [if_pos c61] at H
                have c61b0 : ((t249.length : Int) == 0) = true := beq_iff_eq.mpr c61
                have c61b1 : ((t249.length : Int) != 0) = false := bne_eq_false_iff_eq.mpr c61
                clear c61
                by_cases c62 : t254 = 0
                · rw [if_pos c62] at H
                  have c62b0 : (t254 == 0) = true := beq_iff_eq.mpr c62
                  have c62b1 : (t254 != 0) = false := bne_eq_false_iff_eq.mpr c62
                  clear c62
                  as_aux_lemma =>
                    have H' := Aside0.mk H
                    clear H
                    obtain ⟨Ao63, co63, eo63⟩ := Kd.R_slice HO252.out
                    subst eo63
                    go_wp2
                    go_meet
                    case rel => exact ⟨_, (false), (by first | rfl | (simp; done) | (simp [*]; done) | (simp [isEmpty_ne]; done)), H', ⟨by have := HJ8.out; first | omega | exact Nat.le_refl _⟩, ⟨by (with_reducible repeat (first | apply Kd.R_alloc | apply Kd.R_drewN | apply Kd.R_drew)); exact Kd.R_mono HO252.out (fun _ hk => hk.2)⟩, ⟨by (with_reducible repeat (first | apply Kd.R_alloc | apply Kd.R_drewN | apply Kd.R_drew)); exact Kd.R_mono HO256.out (fun _ hk => hk.2)⟩, ⟨by repeat (first | (with_reducible first | exact HB.out | apply below_alloc | apply pw_below_drewN | apply below_drew1) | exact HB.out)⟩⟩
                · rw [if_neg c62] at H
                  have c62b0 : (t254 == 0) = false := beq_eq_false_iff_ne.mpr c62
                  have c62b1 : (t254 != 0) = true := bne_iff_ne.mpr c62
                  by_cases c64 : t254 = 2
                  · rw [if_pos c64] at H
                    have c64b0 : (t254 == 2) = true := beq_iff_eq.mpr c64
                    have c64b1 : (t254 != 2) = false := bne_eq_false_iff_eq.mpr c64
                    clear c64
                    as_aux_lemma =>
                      have H' := Aside0.mk H
                      clear H
                      obtain ⟨Ao65, co65, eo65⟩ := Kd.R_slice HO252.out
                      subst eo65
                      obtain ⟨Ao66, co66, eo66⟩ := Kd.R_slice HO256.out
                      subst eo66
                      go_wp2
                      go_meet
                      case rel => exact ⟨_, (((t253.length : Int) != 0)), (by first | rfl | (simp; done) | (simp [*]; done) | (simp [isEmpty_ne]; done)), H', ⟨by have := HJ8.out; first | omega | exact Nat.le_refl _⟩, ⟨by (with_reducible repeat (first | apply Kd.R_alloc | apply Kd.R_drewN | apply Kd.R_drew)); exact Kd.R_mono HO252.out (fun _ hk => hk.2)⟩, ⟨by (with_reducible repeat (first | apply Kd.R_alloc | apply Kd.R_drewN | apply Kd.R_drew)); exact Kd.R_mono HO256.out (fun _ hk => hk.2)⟩, ⟨by repeat (first | (with_reducible first | exact HB.out | apply below_alloc | apply pw_below_drewN | apply below_drew1) | exact HB.out)⟩⟩
                  · rw [if_neg c64] at H
                    have c64b0 : (t254 == 2) = false := beq_eq_false_iff_ne.mpr c64
                    have c64b1 : (t254 != 2) = true := bne_iff_ne.mpr c64
                    as_aux_lemma =>
                      have H' := Aside0.mk H
                      clear H
                      obtain ⟨Ao67, co67, eo67⟩ := Kd.R_slice HO252.out
                      subst eo67
                      go_wp2
                      go_meet
                      case rel => exact ⟨_, (true), (by first | rfl | (simp; done) | (simp [*]; done) | (simp [isEmpty_ne]; done)), H', ⟨by have := HJ8.out; first | omega | exact Nat.le_refl _⟩, ⟨by (with_reducible repeat (first | apply Kd.R_alloc | apply Kd.R_drewN | apply Kd.R_drew)); exact Kd.R_mono HO252.out (fun _ hk => hk.2)⟩, ⟨by (with_reducible repeat (first | apply Kd.R_alloc | apply Kd.R_drewN | apply Kd.R_drew)); exact Kd.R_mono HO256.out (fun _ hk => hk.2)⟩, ⟨by repeat (first | (with_reducible first | exact HB.out | apply below_alloc | apply pw_below_drewN | apply below_drew1) | exact HB.out)⟩⟩
              · rw [if_neg c61] at H
                have c61b0 : ((t249.length : Int) == 0) = false := beq_eq_false_iff_ne.mpr c61
                have c61b1 : ((t249.length : Int) != 0) = true := bne_iff_ne.mpr c61
                have c61b2 : ¬ (t249 = []) := fun h_ => c61 (by rw [h_]; rfl)
                as_aux_lemma =>
                  have H' := Aside0.mk H
                  clear H
                  obtain ⟨Ao68, co68, eo68⟩ := Kd.R_slice HO252.out
                  subst eo68
                  go_wp2
                  go_meet
                  case rel => exact ⟨_, (true), (by first | rfl | (simp; done) | (simp [*]; done) | (simp [isEmpty_ne]; done)), H', ⟨by have := HJ8.out; first | omega | exact Nat.le_refl _⟩, ⟨by (with_reducible repeat (first | apply Kd.R_alloc | apply Kd.R_drewN | apply Kd.R_drew)); exact Kd.R_mono HO252.out (fun _ hk => hk.2)⟩, ⟨by (with_reducible repeat (first | apply Kd.R_alloc | apply Kd.R_drewN | apply Kd.R_drew)); exact Kd.R_mono HO256.out (fun _ hk => hk.2)⟩, ⟨by repeat (first | (with_reducible first | exact HB.out | apply below_alloc | apply pw_below_drewN | apply below_drew1) | exact HB.out)⟩⟩
            · rw [if_neg c60] at H
              have c60b0 : (t250 == 2) = false := beq_eq_false_iff_ne.mpr c60
              have c60b1 : (t250 != 2) = true := bne_iff_ne.mpr c60
              as_aux_lemma =>
                have H' := Aside0.mk H
                clear H
                go_wp2
                go_meet
                case rel => exact ⟨_, (true), (by first | rfl | (simp; done) | (simp [*]; done) | (simp [isEmpty_ne]; done)), H', ⟨by have := HJ8.out; first | omega | exact Nat.le_refl _⟩, ⟨by (with_reducible repeat (first | apply Kd.R_alloc | apply Kd.R_drewN | apply Kd.R_drew)); exact Kd.R_mono HO252.out (fun _ hk => hk.2)⟩, ⟨by (with_reducible repeat (first | apply Kd.R_alloc | apply Kd.R_drewN | apply Kd.R_drew)); exact Kd.R_mono HO256.out (fun _ hk => hk.2)⟩, ⟨by repeat (first | (with_reducible first | exact HB.out | apply below_alloc | apply pw_below_drewN | apply below_drew1) | exact HB.out)⟩⟩
        case rest =>
          clear HC53
          try clear c1
          try clear c2
          try clear p2
          try clear hcv2
          try clear hcv3
          try clear hcv4
          try clear c5
          try clear c6
          try clear c8
          try clear c17
          try clear c17b0
          try clear c17b1
          try clear c18
          try clear c18b0
          try clear c18b1
          try clear c19
          try clear c19b0
          try clear c19b1
          try clear c20
          try clear c20b0
          try clear c20b1
          try clear c21
          try clear c21b0
          try clear c21b1
          try clear c22
          try clear c22b0
          try clear c22b1
          try clear c23
          try clear c23b0
          try clear c23b1
          try clear c24
          try clear c24b0
          try clear c24b1
          try clear c25
          try clear hcv25
          try clear hcv26
          try clear c27
          try clear hcv27
          try clear hcv28
          try clear c29
          try clear c29b0
          try clear c29b1
          try clear hcv30
          try clear hcv31
          try clear hcv32
          try clear hcv33
          try clear hcv35
          try clear hcv36
          try clear hcv37
          try clear hcv38
          try clear hcv40
          try clear hcv41
          try clear hcv42
          try clear hcv43
          try clear hcv44
          try clear hcv45
          try clear hcv46
          try clear hcv47
          try clear hcv48
          try clear hcv49
          try clear c50
          try clear c56
          try clear c56b0
          try clear c56b1
          try clear c57
          try clear c57b0
          try clear c57b1
          try clear c58
          try clear c58b0
          try clear c58b1
          try clear c60
          try clear c60b0
          try clear c60b1
          try clear c61
          try clear c61b0
          try clear c61b1
          try clear c61b2
          try clear c62
          try clear c62b0
          try clear c62b1
          try clear c64
          try clear c64b0
          try clear c64b1
          try clear p2
          obtain ⟨kq, x122_52, rfl, HA, HJ52, HO_12, HO_14, HB⟩ := hcut
          cases kq with
          | zero => exact absurd HA.out (by simp [wisplaw20_ShotBack.j1])
          | succ kj52 =>
            have H := HA.out
            clear HA
            simp only [wisplaw20_ShotBack.j1] at H
            by_cases c69 : x122_52 = true
            · subst c69
              have H1 : (some false) = some r := by rw [if_pos rfl] at H; exact H
              clear H
              have H := H1
              clear H1
              as_aux_lemma =>
                obtain rfl := Option.some.inj H
                go_wp2
                go_ret
                exact ⟨by first | rfl | (simp [errW_none, errW_some] <;> rfl) | (simp [*, errW_none, errW_some] <;> rfl), by repeat (first | (with_reducible first | exact HB.out | apply below_alloc | apply pw_below_drewN | apply below_drew1) | exact HB.out)⟩
            · replace c69 := Bool.eq_false_iff.mpr c69
              subst c69
              have H1 : (if t250 = 0 then ((shot_Art.f kj52 t249).bind fun bt257 => (if bt257.2 = 0 then (if bt257.1.toList = a1.toList then (wisplaw20_ShotBack.j2 kj52 l2 t253 t254) else (some false)) else (some false))) else (wisplaw20_ShotBack.j2 kj52 l2 t253 t254)) = some r := by rw [if_neg (show ¬ (false = true) by decide)] at H; exact H
              clear H
              have H := H1
              clear H1
              have HC70 := Aside0.mk H
              clear H
              go_upto_if 124 with (fail)
              go_cut [] (fun wc => ∃ (kq : Nat), Aside0 (wisplaw20_ShotBack.j2 kq l2 t253 t254 = some r) ∧ Aside0 (kq ≤ kj52) ∧ Aside0 (Kd.R (Kd.int .u8) 5 wc w.heap.size (fun _ => True) v255 t253) ∧ Aside0 (Below w.heap.size w wc))
              case first =>
                have H := HC70.out
                clear HC70
                by_cases c71 : t250 = 0
                · rw [if_pos c71] at H
                  have c71b0 : (t250 == 0) = true := beq_iff_eq.mpr c71
                  have c71b1 : (t250 != 0) = false := bne_eq_false_iff_eq.mpr c71
                  clear c71
                  (first | rw [c71b0] | (simp only [i64_w, i32_w]; rw [c71b0]) | skip)
                  replace H := Option.bind_eq_some_iff.mp H
                  obtain ⟨⟨t257, t258⟩, A720, H⟩ := H
                  replace H : (if t258 = 0 then (if t257.toList = a1.toList then (wisplaw20_ShotBack.j2 kj52 l2 t253 t254) else (some false)) else (some false)) = some r := H
                  have A72 := Aside0.mk A720
                  clear A720
                  by_cases c73 : t258 = 0
                  · rw [if_pos c73] at H
                    have c73b0 : (t258 == 0) = true := beq_iff_eq.mpr c73
                    have c73b1 : (t258 != 0) = false := bne_eq_false_iff_eq.mpr c73
                    clear c73
                    by_cases c74 : t257.toList = a1.toList
                    · rw [if_pos c74] at H
                      have c74b0 : (t257.toList == a1.toList) = true := beq_iff_eq.mpr c74
                      have c74b1 : (t257.toList != a1.toList) = false := bne_eq_false_iff_eq.mpr c74
                      clear c74
                      as_aux_lemma =>
                        have H' := Aside0.mk H
                        clear H
                        obtain ⟨Ao75, co75, eo75⟩ := Kd.R_slice HO_12.out
                        subst eo75
                        go_wp2_with (first | ((with_reducible refine gate_callee (f := 20) rfl ?_); refine goesL_ (some 127) rfl rfl Try.func20 (by kernel_rfl) rfl #[.slice Ao75 t249.length co75] rfl (by (try simp only [List.map_toArray, List.map_cons, List.map_nil]); first | done | rfl | (simp only [List.length_drop, List.length_take]; rfl)) ?_; (with_reducible refine (shot_Art.calls kj52 _ _ t249 t257 t258 _ ?side1 ?side2 A72.out).mono ?_); (case side1 => repeat (first | exact (Kd.R_reads' HO_12.out).2.2 | (with_reducible refine Kd.C_alloc ?_ _) | (with_reducible refine Kd.C_drewN ?_ _) | (with_reducible refine Kd.C_drew ?_))); (case side2 => exact (Kd.R_reads' HO_12.out).2.1); rintro e w76 ⟨rfl, hb⟩; refine ⟨_, rfl, ?_⟩; have n0_ := Aside0.mk (Kd.R_below (by (with_reducible repeat (first | apply Kd.R_alloc | apply Kd.R_drewN | apply Kd.R_drew)); exact HO_12.out) hb); have n1_ := Aside0.mk (Kd.R_below (by (with_reducible repeat (first | apply Kd.R_alloc | apply Kd.R_drewN | apply Kd.R_drew)); exact HO_14.out) hb); have n2_ := Aside0.mk (below_step (by repeat (first | (with_reducible first | exact HB.out | apply below_alloc | apply pw_below_drewN | apply below_drew1) | exact HB.out)) hb); clear HO_12; clear HO_14; clear HB; have HO_12 := n0_; have HO_14 := n1_; have HB := n2_; clear n0_ n1_ n2_; (try clear hb); (try clear hb2); (try clear hk); (try clear hi)))
                        go_meet
                        case rel => exact ⟨_, H', ⟨by have := HJ8.out; have := HJ52.out; first | omega | exact Nat.le_refl _⟩, ⟨by (with_reducible repeat (first | apply Kd.R_alloc | apply Kd.R_drewN | apply Kd.R_drew)); exact Kd.R_mono HO_14.out (fun _ hk => trivial)⟩, ⟨by repeat (first | (with_reducible first | exact HB.out | apply below_alloc | apply pw_below_drewN | apply below_drew1) | exact HB.out)⟩⟩
                    · rw [if_neg c74] at H
                      have c74b0 : (t257.toList == a1.toList) = false := beq_eq_false_iff_ne.mpr c74
                      have c74b1 : (t257.toList != a1.toList) = true := bne_iff_ne.mpr c74
                      as_aux_lemma =>
                        obtain rfl := Option.some.inj H
                        obtain ⟨Ao77, co77, eo77⟩ := Kd.R_slice HO_12.out
                        subst eo77
                        go_wp2_with (first | ((with_reducible refine gate_callee (f := 20) rfl ?_); refine goesL_ (some 127) rfl rfl Try.func20 (by kernel_rfl) rfl #[.slice Ao77 t249.length co77] rfl (by (try simp only [List.map_toArray, List.map_cons, List.map_nil]); first | done | rfl | (simp only [List.length_drop, List.length_take]; rfl)) ?_; (with_reducible refine (shot_Art.calls kj52 _ _ t249 t257 t258 _ ?side1 ?side2 A72.out).mono ?_); (case side1 => repeat (first | exact (Kd.R_reads' HO_12.out).2.2 | (with_reducible refine Kd.C_alloc ?_ _) | (with_reducible refine Kd.C_drewN ?_ _) | (with_reducible refine Kd.C_drew ?_))); (case side2 => exact (Kd.R_reads' HO_12.out).2.1); rintro e w78 ⟨rfl, hb⟩; refine ⟨_, rfl, ?_⟩; have n0_ := Aside0.mk (Kd.R_below (by (with_reducible repeat (first | apply Kd.R_alloc | apply Kd.R_drewN | apply Kd.R_drew)); exact HO_12.out) hb); have n1_ := Aside0.mk (Kd.R_below (by (with_reducible repeat (first | apply Kd.R_alloc | apply Kd.R_drewN | apply Kd.R_drew)); exact HO_14.out) hb); have n2_ := Aside0.mk (below_step (by repeat (first | (with_reducible first | exact HB.out | apply below_alloc | apply pw_below_drewN | apply below_drew1) | exact HB.out)) hb); clear HO_12; clear HO_14; clear HB; have HO_12 := n0_; have HO_14 := n1_; have HB := n2_; clear n0_ n1_ n2_; (try clear hb); (try clear hb2); (try clear hk); (try clear hi)))
                        go_ret
                        exact ⟨by first | rfl | (simp [errW_none, errW_some] <;> rfl) | (simp [*, errW_none, errW_some] <;> rfl), by repeat (first | (with_reducible first | exact HB.out | apply below_alloc | apply pw_below_drewN | apply below_drew1) | exact HB.out)⟩
                  · rw [if_neg c73] at H
                    have c73b0 : (t258 == 0) = false := beq_eq_false_iff_ne.mpr c73
                    have c73b1 : (t258 != 0) = true := bne_iff_ne.mpr c73
                    as_aux_lemma =>
                      obtain rfl := Option.some.inj H
                      obtain ⟨Ao79, co79, eo79⟩ := Kd.R_slice HO_12.out
                      subst eo79
                      go_wp2_with (first | ((with_reducible refine gate_callee (f := 20) rfl ?_); refine goesL_ (some 127) rfl rfl Try.func20 (by kernel_rfl) rfl #[.slice Ao79 t249.length co79] rfl (by (try simp only [List.map_toArray, List.map_cons, List.map_nil]); first | done | rfl | (simp only [List.length_drop, List.length_take]; rfl)) ?_; (with_reducible refine (shot_Art.calls kj52 _ _ t249 t257 t258 _ ?side1 ?side2 A72.out).mono ?_); (case side1 => repeat (first | exact (Kd.R_reads' HO_12.out).2.2 | (with_reducible refine Kd.C_alloc ?_ _) | (with_reducible refine Kd.C_drewN ?_ _) | (with_reducible refine Kd.C_drew ?_))); (case side2 => exact (Kd.R_reads' HO_12.out).2.1); rintro e w80 ⟨rfl, hb⟩; refine ⟨_, rfl, ?_⟩; have n0_ := Aside0.mk (Kd.R_below (by (with_reducible repeat (first | apply Kd.R_alloc | apply Kd.R_drewN | apply Kd.R_drew)); exact HO_12.out) hb); have n1_ := Aside0.mk (Kd.R_below (by (with_reducible repeat (first | apply Kd.R_alloc | apply Kd.R_drewN | apply Kd.R_drew)); exact HO_14.out) hb); have n2_ := Aside0.mk (below_step (by repeat (first | (with_reducible first | exact HB.out | apply below_alloc | apply pw_below_drewN | apply below_drew1) | exact HB.out)) hb); clear HO_12; clear HO_14; clear HB; have HO_12 := n0_; have HO_14 := n1_; have HB := n2_; clear n0_ n1_ n2_; (try clear hb); (try clear hb2); (try clear hk); (try clear hi)))
                      go_ret
                      exact ⟨by first | rfl | (simp [errW_none, errW_some] <;> rfl) | (simp [*, errW_none, errW_some] <;> rfl), by repeat (first | (with_reducible first | exact HB.out | apply below_alloc | apply pw_below_drewN | apply below_drew1) | exact HB.out)⟩
                · rw [if_neg c71] at H
                  have c71b0 : (t250 == 0) = false := beq_eq_false_iff_ne.mpr c71
                  have c71b1 : (t250 != 0) = true := bne_iff_ne.mpr c71
                  (first | rw [c71b0] | (simp only [i64_w, i32_w]; rw [c71b0]) | skip)
                  as_aux_lemma =>
                    have H' := Aside0.mk H
                    clear H
                    go_wp2
                    go_meet
                    case rel => exact ⟨_, H', ⟨by have := HJ8.out; have := HJ52.out; first | omega | exact Nat.le_refl _⟩, ⟨by (with_reducible repeat (first | apply Kd.R_alloc | apply Kd.R_drewN | apply Kd.R_drew)); exact Kd.R_mono HO_14.out (fun _ hk => trivial)⟩, ⟨by repeat (first | (with_reducible first | exact HB.out | apply below_alloc | apply pw_below_drewN | apply below_drew1) | exact HB.out)⟩⟩
              case rest =>
                clear HC70
                try clear c1
                try clear c2
                try clear p2
                try clear hcv2
                try clear hcv3
                try clear hcv4
                try clear c5
                try clear c6
                try clear c7
                try clear c8
                try clear c17
                try clear c17b0
                try clear c17b1
                try clear c18
                try clear c18b0
                try clear c18b1
                try clear c19
                try clear c19b0
                try clear c19b1
                try clear c20
                try clear c20b0
                try clear c20b1
                try clear c21
                try clear c21b0
                try clear c21b1
                try clear c22
                try clear c22b0
                try clear c22b1
                try clear c23
                try clear c23b0
                try clear c23b1
                try clear c24
                try clear c24b0
                try clear c24b1
                try clear c25
                try clear hcv25
                try clear hcv26
                try clear c27
                try clear hcv27
                try clear hcv28
                try clear c29
                try clear c29b0
                try clear c29b1
                try clear hcv30
                try clear hcv31
                try clear hcv32
                try clear hcv33
                try clear hcv35
                try clear hcv36
                try clear hcv37
                try clear hcv38
                try clear hcv40
                try clear hcv41
                try clear hcv42
                try clear hcv43
                try clear hcv44
                try clear hcv45
                try clear hcv46
                try clear hcv47
                try clear hcv48
                try clear hcv49
                try clear c50
                try clear c56
                try clear c56b0
                try clear c56b1
                try clear c57
                try clear c57b0
                try clear c57b1
                try clear c58
                try clear c58b0
                try clear c58b1
                try clear c60
                try clear c60b0
                try clear c60b1
                try clear c61
                try clear c61b0
                try clear c61b1
                try clear c61b2
                try clear c62
                try clear c62b0
                try clear c62b1
                try clear c64
                try clear c64b0
                try clear c64b1
                try clear c69
                try clear c71
                try clear c71b0
                try clear c71b1
                try clear c73
                try clear c73b0
                try clear c73b1
                try clear c74
                try clear c74b0
                try clear c74b1
                try clear p2
                obtain ⟨kq, HA, HJ69, HO_14, HB⟩ := hcut
                cases kq with
                | zero => exact absurd HA.out (by simp [wisplaw20_ShotBack.j2])
                | succ kj69 =>
                  have H := HA.out
                  clear HA
                  simp only [wisplaw20_ShotBack.j2] at H
                  by_cases c81 : t254 = 0
                  · rw [if_pos c81] at H
                    have c81b0 : (t254 == 0) = true := beq_iff_eq.mpr c81
                    have c81b1 : (t254 != 0) = false := bne_eq_false_iff_eq.mpr c81
                    clear c81
                    replace H := Option.bind_eq_some_iff.mp H
                    obtain ⟨⟨t259, t260⟩, A820, H⟩ := H
                    replace H : (if t260 = 0 then (if (strOfNums t259).toList = (strOfNums l2).toList then (some true) else (some false)) else (some false)) = some r := H
                    have A82 := Aside0.mk A820
                    clear A820
                    by_cases c83 : t260 = 0
                    · rw [if_pos c83] at H
                      have c83b0 : (t260 == 0) = true := beq_iff_eq.mpr c83
                      have c83b1 : (t260 != 0) = false := bne_eq_false_iff_eq.mpr c83
                      clear c83
                      by_cases c84 : (strOfNums t259).toList = (strOfNums l2).toList
                      · rw [if_pos c84] at H
                        have c84b0 : ((strOfNums t259).toList == (strOfNums l2).toList) = true := beq_iff_eq.mpr c84
                        have c84b1 : ((strOfNums t259).toList != (strOfNums l2).toList) = false := bne_eq_false_iff_eq.mpr c84
                        clear c84
                        as_aux_lemma =>
                          obtain rfl := Option.some.inj H
                          obtain ⟨Ao85, co85, eo85⟩ := Kd.R_slice HO_14.out
                          subst eo85
                          go_wp2_with (first | ((with_reducible refine gate_callee (f := 25) rfl ?_); refine goesL_ (some 141) rfl rfl Try.func25 (by kernel_rfl) rfl #[.slice Ao85 t253.length co85] rfl (by (try simp only [List.map_toArray, List.map_cons, List.map_nil]); first | done | rfl | (simp only [List.length_drop, List.length_take]; rfl)) ?_; (with_reducible refine (shot_Pack.calls _ _ t253 t259 t260 _ ?side1 ?side2 A82.out).mono ?_); (case side1 => repeat (first | exact (Kd.R_reads' HO_14.out).2.2 | (with_reducible refine Kd.C_alloc ?_ _) | (with_reducible refine Kd.C_drewN ?_ _) | (with_reducible refine Kd.C_drew ?_))); (case side2 => exact (Kd.R_reads' HO_14.out).2.1); rintro e w86 ⟨v261, rfl, ho0, hb⟩; refine ⟨_, rfl, ?_⟩; have n0_ := Aside0.mk (Kd.R_elder' (by (with_reducible repeat (first | apply Kd.R_alloc | apply Kd.R_drewN | apply Kd.R_drew)); exact HO_14.out) (Kd.R_base ho0) hb); have n1_ := Aside0.mk (Kd.R_lower (Kd.R_new' ho0 (Kd.R_lt (by (with_reducible repeat (first | apply Kd.R_alloc | apply Kd.R_drewN | apply Kd.R_drew)); exact HO_14.out))) (below_size (by repeat (first | (with_reducible first | exact HB.out | apply below_alloc | apply pw_below_drewN | apply below_drew1) | exact HB.out)))); have n2_ := Aside0.mk (below_step (by repeat (first | (with_reducible first | exact HB.out | apply below_alloc | apply pw_below_drewN | apply below_drew1) | exact HB.out)) hb); clear HO_14; clear HB; have HO_14 := n0_; have HO262 := n1_; have HB := n2_; clear n0_ n1_ n2_; (try clear hb); (try clear hb2); (try clear hk); (try clear hi); (try clear ho0); have hcv87 := own_string (P := Try.prog) Try.underlying22 Try.underlying5 Try.underlying9 (Kd.own_of_R HO262.out); have hcv88 := Kd.C_string (P := Try.prog) (A := A2) (c := c2) Try.underlying22 Try.underlying5 Try.underlying9 (Kd.C_below HR2.out HB.out)))
                          go_ret
                          exact ⟨by first | rfl | (simp [errW_none, errW_some] <;> rfl) | (simp [*, errW_none, errW_some] <;> rfl), by repeat (first | (with_reducible first | exact HB.out | apply below_alloc | apply pw_below_drewN | apply below_drew1) | exact HB.out)⟩
                      · rw [if_neg c84] at H
                        have c84b0 : ((strOfNums t259).toList == (strOfNums l2).toList) = false := beq_eq_false_iff_ne.mpr c84
                        have c84b1 : ((strOfNums t259).toList != (strOfNums l2).toList) = true := bne_iff_ne.mpr c84
                        as_aux_lemma =>
                          obtain rfl := Option.some.inj H
                          obtain ⟨Ao89, co89, eo89⟩ := Kd.R_slice HO_14.out
                          subst eo89
                          go_wp2_with (first | ((with_reducible refine gate_callee (f := 25) rfl ?_); refine goesL_ (some 141) rfl rfl Try.func25 (by kernel_rfl) rfl #[.slice Ao89 t253.length co89] rfl (by (try simp only [List.map_toArray, List.map_cons, List.map_nil]); first | done | rfl | (simp only [List.length_drop, List.length_take]; rfl)) ?_; (with_reducible refine (shot_Pack.calls _ _ t253 t259 t260 _ ?side1 ?side2 A82.out).mono ?_); (case side1 => repeat (first | exact (Kd.R_reads' HO_14.out).2.2 | (with_reducible refine Kd.C_alloc ?_ _) | (with_reducible refine Kd.C_drewN ?_ _) | (with_reducible refine Kd.C_drew ?_))); (case side2 => exact (Kd.R_reads' HO_14.out).2.1); rintro e w90 ⟨v261, rfl, ho0, hb⟩; refine ⟨_, rfl, ?_⟩; have n0_ := Aside0.mk (Kd.R_elder' (by (with_reducible repeat (first | apply Kd.R_alloc | apply Kd.R_drewN | apply Kd.R_drew)); exact HO_14.out) (Kd.R_base ho0) hb); have n1_ := Aside0.mk (Kd.R_lower (Kd.R_new' ho0 (Kd.R_lt (by (with_reducible repeat (first | apply Kd.R_alloc | apply Kd.R_drewN | apply Kd.R_drew)); exact HO_14.out))) (below_size (by repeat (first | (with_reducible first | exact HB.out | apply below_alloc | apply pw_below_drewN | apply below_drew1) | exact HB.out)))); have n2_ := Aside0.mk (below_step (by repeat (first | (with_reducible first | exact HB.out | apply below_alloc | apply pw_below_drewN | apply below_drew1) | exact HB.out)) hb); clear HO_14; clear HB; have HO_14 := n0_; have HO262 := n1_; have HB := n2_; clear n0_ n1_ n2_; (try clear hb); (try clear hb2); (try clear hk); (try clear hi); (try clear ho0); have hcv91 := own_string (P := Try.prog) Try.underlying22 Try.underlying5 Try.underlying9 (Kd.own_of_R HO262.out); have hcv92 := Kd.C_string (P := Try.prog) (A := A2) (c := c2) Try.underlying22 Try.underlying5 Try.underlying9 (Kd.C_below HR2.out HB.out)))
                          go_ret
                          exact ⟨by first | rfl | (simp [errW_none, errW_some] <;> rfl) | (simp [*, errW_none, errW_some] <;> rfl), by repeat (first | (with_reducible first | exact HB.out | apply below_alloc | apply pw_below_drewN | apply below_drew1) | exact HB.out)⟩
                    · rw [if_neg c83] at H
                      have c83b0 : (t260 == 0) = false := beq_eq_false_iff_ne.mpr c83
                      have c83b1 : (t260 != 0) = true := bne_iff_ne.mpr c83
                      as_aux_lemma =>
                        obtain rfl := Option.some.inj H
                        obtain ⟨Ao93, co93, eo93⟩ := Kd.R_slice HO_14.out
                        subst eo93
                        go_wp2_with (first | ((with_reducible refine gate_callee (f := 25) rfl ?_); refine goesL_ (some 141) rfl rfl Try.func25 (by kernel_rfl) rfl #[.slice Ao93 t253.length co93] rfl (by (try simp only [List.map_toArray, List.map_cons, List.map_nil]); first | done | rfl | (simp only [List.length_drop, List.length_take]; rfl)) ?_; (with_reducible refine (shot_Pack.calls _ _ t253 t259 t260 _ ?side1 ?side2 A82.out).mono ?_); (case side1 => repeat (first | exact (Kd.R_reads' HO_14.out).2.2 | (with_reducible refine Kd.C_alloc ?_ _) | (with_reducible refine Kd.C_drewN ?_ _) | (with_reducible refine Kd.C_drew ?_))); (case side2 => exact (Kd.R_reads' HO_14.out).2.1); rintro e w94 ⟨v261, rfl, ho0, hb⟩; refine ⟨_, rfl, ?_⟩; have n0_ := Aside0.mk (Kd.R_elder' (by (with_reducible repeat (first | apply Kd.R_alloc | apply Kd.R_drewN | apply Kd.R_drew)); exact HO_14.out) (Kd.R_base ho0) hb); have n1_ := Aside0.mk (Kd.R_lower (Kd.R_new' ho0 (Kd.R_lt (by (with_reducible repeat (first | apply Kd.R_alloc | apply Kd.R_drewN | apply Kd.R_drew)); exact HO_14.out))) (below_size (by repeat (first | (with_reducible first | exact HB.out | apply below_alloc | apply pw_below_drewN | apply below_drew1) | exact HB.out)))); have n2_ := Aside0.mk (below_step (by repeat (first | (with_reducible first | exact HB.out | apply below_alloc | apply pw_below_drewN | apply below_drew1) | exact HB.out)) hb); clear HO_14; clear HB; have HO_14 := n0_; have HO262 := n1_; have HB := n2_; clear n0_ n1_ n2_; (try clear hb); (try clear hb2); (try clear hk); (try clear hi); (try clear ho0)))
                        go_ret
                        exact ⟨by first | rfl | (simp [errW_none, errW_some] <;> rfl) | (simp [*, errW_none, errW_some] <;> rfl), by repeat (first | (with_reducible first | exact HB.out | apply below_alloc | apply pw_below_drewN | apply below_drew1) | exact HB.out)⟩
                  · rw [if_neg c81] at H
                    have c81b0 : (t254 == 0) = false := beq_eq_false_iff_ne.mpr c81
                    have c81b1 : (t254 != 0) = true := bne_iff_ne.mpr c81
                    as_aux_lemma =>
                      obtain rfl := Option.some.inj H
                      go_wp2
                      go_ret
                      exact ⟨by first | rfl | (simp [errW_none, errW_some] <;> rfl) | (simp [*, errW_none, errW_some] <;> rfl), by repeat (first | (with_reducible first | exact HB.out | apply below_alloc | apply pw_below_drewN | apply below_drew1) | exact HB.out)⟩

/-- THE ONE PURE STATEMENT of wisplaw20_ShotBack: yours. -/
def wisplaw20_ShotBack.Pure : Prop := ∀ (l0 : List Int) (a1 : ByteArray) (l2 : List Int), l0.length ≤ maxLen → l0.length * 1 ≤ 140737488351232 → (∀ x ∈ l0, (Lit.int .u8 x).wf = true) → a1.size ≤ 140737488351232 → l2.length ≤ maxLen → l2.length * 1 ≤ 140737488351232 → (∀ x ∈ l2, (Lit.int .u8 x).wf = true) → ∃ k, wisplaw20_ShotBack.f k l0 a1 l2 = some true
theorem wisplaw20_ShotBack.walk (P : wisplaw20_ShotBack.Pure) (a0 : Option Addr) (len0 cap0 : Nat) (z0 : List Int) (a1 : ByteArray) (a2 : Option Addr) (len2 cap2 : Nat) (z2 : List Int) (w : World) (w0 : (a0 = none ∧ len0 = 0 ∧ cap0 = 0 ∧ z0 = []) ∨ ∃ x, a0 = some x ∧ len0 ≤ cap0 ∧ cap0 ≤ maxLen ∧ z0.length = cap0 ∧ (∀ i, i < z0.length → w.cell? (x.add i) = some (.int .u8 (z0.getD i 0))) ∧ ∀ n ∈ z0, (Lit.int .u8 n).wf = true) (y0 : len0 * 1 ≤ 140737488351232) (w1 : a1.size ≤ 140737488351232) (w2 : (a2 = none ∧ len2 = 0 ∧ cap2 = 0 ∧ z2 = []) ∨ ∃ x, a2 = some x ∧ len2 ≤ cap2 ∧ cap2 ≤ maxLen ∧ z2.length = cap2 ∧ (∀ i, i < z2.length → w.cell? (x.add i) = some (.int .u8 (z2.getD i 0))) ∧ ∀ n ∈ z2, (Lit.int .u8 n).wf = true) (y2 : len2 * 1 ≤ 140737488351232) :
    Calls Try.prog 8 #[.slice a0 len0 cap0, .string a1, .slice a2 len2 cap2] w fun e w' => e = .returned (.bool true) ∧ Below w.heap.size w w' := by
  obtain ⟨l0, rfl, hr0, hm0, hw0, hc0⟩ := ReadsInt.ofRowC w0
  obtain ⟨l2, rfl, hr2, hm2, hw2, hc2⟩ := ReadsInt.ofRowC w2
  obtain ⟨k, h⟩ := P l0 a1 l2 hm0 y0 hw0 w1 hm2 y2 hw2
  refine (wisplaw20_ShotBack.calls k _ _ l0 a1 _ _ l2 true w (Kd.C_of_reads (d := (0 : Int)) (h1 := fun _ => rfl) hr0) hc0 (Kd.C_of_reads (d := (0 : Int)) (h1 := fun _ => rfl) hr2) hc2 h).mono ?_
  rintro e w' ⟨rfl, hd⟩
  exact ⟨rfl, hd⟩

end Go.Proofs.Ytpjdgndbcjinjaa.P
