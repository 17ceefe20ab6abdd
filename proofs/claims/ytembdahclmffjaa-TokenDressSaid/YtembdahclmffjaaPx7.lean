/- Printed by a program of this session (it turns the kit's print): see wip/myprint. -/
import Derived.Test.YtembdahclmffjaaPx0
import Derived.Test.YtembdahclmffjaaPx3
import Derived.Test.YtembdahclmffjaaPx4
import Derived.Test.YtembdahclmffjaaPx6
import Derived.Test.YtembdahclmffjaaPlaces
import Derived.Test.YtembdahclmffjaaSx
import Derived.WalkMore
namespace Go.Proofs.Ytembdahclmffjaa.P
open Go.RowKit Go.Proofs.YtembdahclmffjaaW.PrintWords Go.Proofs.YtembdahclmffjaaW.PrintLast Go.Proofs.YtembdahclmffjaaW.PrintMore Go.Proofs.Ytembdahclmffjaa.Mine
attribute [local go_sem] max2_int min2_int max_two min_two max_three min_three max_four min_four   -- for this text's walks alone
set_option linter.unusedVariables false
set_option linter.unusedSimpArgs false

/-! ### token_Scan: function 8 -/
mutual
def token_Scan.j3 : Nat → ByteArray → List (S30) → List Int → Option ((List (S30)) × Int × Int × Int)
  | 0, _, _, _ => none
  | k + 1, x0, x5, x6 => (text_Places.f k x0 x6).bind fun t156 => (token_Scan.l2 k x5 t156 (t156.length : Int) 0)
def token_Scan.l2 : Nat → List (S30) → List (S24) → Int → Int → Option ((List (S30)) × Int × Int × Int)
  | 0, _, _, _, _ => none
  | k + 1, x5, x122, x123, x124 => if x124 < x123 then (if 0 ≤ x124 then (if x124 < (x122.length : Int) then (if x124 < (x5.length : Int) then (token_Scan.l2 k (x5.set (x124 : Int).toNat (⟨(rd_T30 x5 x124).f0, (rd_T30 x5 x124).f1, (rd_T30 x5 x124).f2, (⟨(rd_T24 x122 x124).f0, (rd_T24 x122 x124).f1⟩ : S24)⟩ : S30)) x122 x123 (wrap64 (x124 + 1))) else (none)) else (none)) else (none)) else (some (x5, 0, 0, 0))
def token_Scan.l0 : Nat → ByteArray → List (S30) → List Int → Int → Option ((List (S30)) × Int × Int × Int)
  | 0, _, _, _, _ => none
  | k + 1, x0, x5, x6, x7 => if x7 < (x0.size : Int) then (if 0 ≤ x7 then ((token_blank.f (bt x0 x7)).bind fun t127 => (if t127 = true then (token_Scan.l0 k x0 x5 x6 (wrap64 (x7 + 1))) else ((token_part.f (bt x0 x7)).bind fun t128 => (if t128 = true then (token_Scan.l1 k x0 x5 x6 x7 x7) else ((token_place.f k x0 x7).bind fun bt129 => (some (([] : List (S30)), bt129.1, bt129.2, 91))))))) else (none)) else (token_Scan.j3 k x0 x5 x6)
def token_Scan.j2 : Nat → ByteArray → List (S30) → List Int → Int → Int → Option ((List (S30)) × Int × Int × Int)
  | 0, _, _, _, _, _ => none
  | k + 1, x0, x5, x6, x7, x8 => if 0 ≤ x7 then (if x7 ≤ x8 then (if x8 ≤ (x0.size : Int) then (if (x0.extract (x7 : Int).toNat (x8 : Int).toNat).toList = ([92] : List UInt8) then (if 0 ≤ x8 then ((strings_IndexByte.f (x0.extract (x8 : Int).toNat x0.size) 10).bind fun t132 => (if t132 < 0 then (token_Scan.j3 k x0 x5 x6) else (token_Scan.l0 k x0 x5 x6 (wrap64 ((wrap64 (x8 + t132)) + 1))))) else (none)) else (if (x0.extract (x7 : Int).toNat (x8 : Int).toNat).toList = ([40] : List UInt8) then (if 0 ≤ x8 then ((strings_IndexByte.f (x0.extract (x8 : Int).toNat x0.size) 41).bind fun t133 => (if t133 < 0 then ((token_place.f k x0 x7).bind fun bt134 => (some (([] : List (S30)), bt134.1, bt134.2, 92))) else (token_Scan.l0 k x0 x5 x6 (wrap64 ((wrap64 (x8 + t133)) + 1))))) else (none)) else (if ((x0.extract (x7 : Int).toNat (x8 : Int).toNat).size : Int) > 31 then ((token_place.f k x0 x7).bind fun bt136 => (some (([] : List (S30)), bt136.1, bt136.2, 93))) else ((strings_Clone.f (x0.extract (x7 : Int).toNat (x8 : Int).toNat)).bind fun t138 => ((text_Numeral.f k (x0.extract (x7 : Int).toNat (x8 : Int).toNat)).bind fun bt140 => (if bt140.2 = 0 then (if x5.length < 2932031007402 then (if x6.length < 17592186044416 then (token_Scan.l0 k x0 (x5 ++ [(⟨2, t138, bt140.1, (⟨0, 0⟩ : S24)⟩ : S30)]) (x6 ++ [x7]) x8) else (none)) else (none)) else (if bt140.2 = 21 then ((token_place.f k x0 x7).bind fun bt148 => (some (([] : List (S30)), bt148.1, bt148.2, 21))) else (if x5.length < 2932031007402 then (if x6.length < 17592186044416 then (token_Scan.l0 k x0 (x5 ++ [(⟨1, t138, 0, (⟨0, 0⟩ : S24)⟩ : S30)]) (x6 ++ [x7]) x8) else (none)) else (none))))))))) else (none)) else (none)) else (none)
def token_Scan.l1 : Nat → ByteArray → List (S30) → List Int → Int → Int → Option ((List (S30)) × Int × Int × Int)
  | 0, _, _, _, _, _ => none
  | k + 1, x0, x5, x6, x7, x8 => if x8 < (x0.size : Int) then (if 0 ≤ x8 then ((token_part.f (bt x0 x8)).bind fun t131 => (if t131 = true then (token_Scan.l1 k x0 x5 x6 x7 (wrap64 (x8 + 1))) else (token_Scan.j2 k x0 x5 x6 x7 x8))) else (none)) else (token_Scan.j2 k x0 x5 x6 x7 x8)
end
def token_Scan.f (k : Nat) (a0 : ByteArray) : Option ((List (S30)) × Int × Int × Int) := if (a0.size : Int) > 65536 then (some (([] : List (S30)), 1, 1, 90)) else (token_Scan.l0 k a0 ([] : List (S30)) ([] : List Int) 0)
theorem token_Scan.mono_l : ∀ k, (∀ y0 y1 y2, LeO (token_Scan.j3 k y0 y1 y2) (token_Scan.j3 (k + 1) y0 y1 y2)) ∧ (∀ y0 y1 y2 y3, LeO (token_Scan.l2 k y0 y1 y2 y3) (token_Scan.l2 (k + 1) y0 y1 y2 y3)) ∧ (∀ y0 y1 y2 y3, LeO (token_Scan.l0 k y0 y1 y2 y3) (token_Scan.l0 (k + 1) y0 y1 y2 y3)) ∧ (∀ y0 y1 y2 y3 y4, LeO (token_Scan.j2 k y0 y1 y2 y3 y4) (token_Scan.j2 (k + 1) y0 y1 y2 y3 y4)) ∧ (∀ y0 y1 y2 y3 y4, LeO (token_Scan.l1 k y0 y1 y2 y3 y4) (token_Scan.l1 (k + 1) y0 y1 y2 y3 y4))
  | 0 => ⟨fun _ _ _ r h => by simp [token_Scan.j3] at h, fun _ _ _ _ r h => by simp [token_Scan.l2] at h, fun _ _ _ _ r h => by simp [token_Scan.l0] at h, fun _ _ _ _ _ r h => by simp [token_Scan.j2] at h, fun _ _ _ _ _ r h => by simp [token_Scan.l1] at h⟩
  | k + 1 => by
    obtain ⟨ih0, ih1, ih2, ih3, ih4⟩ := token_Scan.mono_l k
    refine ⟨?_, ?_, ?_, ?_, ?_⟩
    · intro y0 y1 y2
      unfold token_Scan.j3
      repeat' first
      | (with_reducible exact ih0 _ _ _)
      | (with_reducible exact ih1 _ _ _ _)
      | (with_reducible exact ih2 _ _ _ _)
      | (with_reducible exact ih3 _ _ _ _ _)
      | (with_reducible exact ih4 _ _ _ _ _)
      | (with_reducible exact text_Numeral.mono _ _)
      | (with_reducible exact text_Places.mono _ _ _)
      | (with_reducible exact token_place.mono _ _ _)
      | (with_reducible exact LeO.refl _)
      | (with_reducible exact LeO.none _)
      | (with_reducible refine LeO.ite ?_ ?_)
      | (with_reducible refine LeO.bind ?_ (fun _ => ?_))
      | exact ih0 _ _ _
      | exact ih1 _ _ _ _
      | exact ih2 _ _ _ _
      | exact ih3 _ _ _ _ _
      | exact ih4 _ _ _ _ _
      | exact text_Numeral.mono _ _
      | exact text_Places.mono _ _ _
      | exact token_place.mono _ _ _
      | exact LeO.none _
      | refine LeO.ite ?_ ?_
      | refine LeO.bind ?_ (fun _ => ?_)
    · intro y0 y1 y2 y3
      unfold token_Scan.l2
      repeat' first
      | (with_reducible exact ih0 _ _ _)
      | (with_reducible exact ih1 _ _ _ _)
      | (with_reducible exact ih2 _ _ _ _)
      | (with_reducible exact ih3 _ _ _ _ _)
      | (with_reducible exact ih4 _ _ _ _ _)
      | (with_reducible exact text_Numeral.mono _ _)
      | (with_reducible exact text_Places.mono _ _ _)
      | (with_reducible exact token_place.mono _ _ _)
      | (with_reducible exact LeO.refl _)
      | (with_reducible exact LeO.none _)
      | (with_reducible refine LeO.ite ?_ ?_)
      | (with_reducible refine LeO.bind ?_ (fun _ => ?_))
      | exact ih0 _ _ _
      | exact ih1 _ _ _ _
      | exact ih2 _ _ _ _
      | exact ih3 _ _ _ _ _
      | exact ih4 _ _ _ _ _
      | exact text_Numeral.mono _ _
      | exact text_Places.mono _ _ _
      | exact token_place.mono _ _ _
      | exact LeO.none _
      | refine LeO.ite ?_ ?_
      | refine LeO.bind ?_ (fun _ => ?_)
    · intro y0 y1 y2 y3
      unfold token_Scan.l0
      repeat' first
      | (with_reducible exact ih0 _ _ _)
      | (with_reducible exact ih1 _ _ _ _)
      | (with_reducible exact ih2 _ _ _ _)
      | (with_reducible exact ih3 _ _ _ _ _)
      | (with_reducible exact ih4 _ _ _ _ _)
      | (with_reducible exact text_Numeral.mono _ _)
      | (with_reducible exact text_Places.mono _ _ _)
      | (with_reducible exact token_place.mono _ _ _)
      | (with_reducible exact LeO.refl _)
      | (with_reducible exact LeO.none _)
      | (with_reducible refine LeO.ite ?_ ?_)
      | (with_reducible refine LeO.bind ?_ (fun _ => ?_))
      | exact ih0 _ _ _
      | exact ih1 _ _ _ _
      | exact ih2 _ _ _ _
      | exact ih3 _ _ _ _ _
      | exact ih4 _ _ _ _ _
      | exact text_Numeral.mono _ _
      | exact text_Places.mono _ _ _
      | exact token_place.mono _ _ _
      | exact LeO.none _
      | refine LeO.ite ?_ ?_
      | refine LeO.bind ?_ (fun _ => ?_)
    · intro y0 y1 y2 y3 y4
      unfold token_Scan.j2
      repeat' first
      | (with_reducible exact ih0 _ _ _)
      | (with_reducible exact ih1 _ _ _ _)
      | (with_reducible exact ih2 _ _ _ _)
      | (with_reducible exact ih3 _ _ _ _ _)
      | (with_reducible exact ih4 _ _ _ _ _)
      | (with_reducible exact text_Numeral.mono _ _)
      | (with_reducible exact text_Places.mono _ _ _)
      | (with_reducible exact token_place.mono _ _ _)
      | (with_reducible exact LeO.refl _)
      | (with_reducible exact LeO.none _)
      | (with_reducible refine LeO.ite ?_ ?_)
      | (with_reducible refine LeO.bind ?_ (fun _ => ?_))
      | exact ih0 _ _ _
      | exact ih1 _ _ _ _
      | exact ih2 _ _ _ _
      | exact ih3 _ _ _ _ _
      | exact ih4 _ _ _ _ _
      | exact text_Numeral.mono _ _
      | exact text_Places.mono _ _ _
      | exact token_place.mono _ _ _
      | exact LeO.none _
      | refine LeO.ite ?_ ?_
      | refine LeO.bind ?_ (fun _ => ?_)
    · intro y0 y1 y2 y3 y4
      unfold token_Scan.l1
      repeat' first
      | (with_reducible exact ih0 _ _ _)
      | (with_reducible exact ih1 _ _ _ _)
      | (with_reducible exact ih2 _ _ _ _)
      | (with_reducible exact ih3 _ _ _ _ _)
      | (with_reducible exact ih4 _ _ _ _ _)
      | (with_reducible exact text_Numeral.mono _ _)
      | (with_reducible exact text_Places.mono _ _ _)
      | (with_reducible exact token_place.mono _ _ _)
      | (with_reducible exact LeO.refl _)
      | (with_reducible exact LeO.none _)
      | (with_reducible refine LeO.ite ?_ ?_)
      | (with_reducible refine LeO.bind ?_ (fun _ => ?_))
      | exact ih0 _ _ _
      | exact ih1 _ _ _ _
      | exact ih2 _ _ _ _
      | exact ih3 _ _ _ _ _
      | exact ih4 _ _ _ _ _
      | exact text_Numeral.mono _ _
      | exact text_Places.mono _ _ _
      | exact token_place.mono _ _ _
      | exact LeO.none _
      | refine LeO.ite ?_ ?_
      | refine LeO.bind ?_ (fun _ => ?_)
theorem token_Scan.mono : ∀ a0 k, LeO (token_Scan.f k a0) (token_Scan.f (k + 1) a0) := by
  intro a0 k
  obtain ⟨ih0, ih1, ih2, ih3, ih4⟩ := token_Scan.mono_l k
  unfold token_Scan.f
  repeat' first
      | (with_reducible exact ih0 _ _ _)
      | (with_reducible exact ih1 _ _ _ _)
      | (with_reducible exact ih2 _ _ _ _)
      | (with_reducible exact ih3 _ _ _ _ _)
      | (with_reducible exact ih4 _ _ _ _ _)
      | (with_reducible exact text_Numeral.mono _ _)
      | (with_reducible exact text_Places.mono _ _ _)
      | (with_reducible exact token_place.mono _ _ _)
      | (with_reducible exact LeO.refl _)
      | (with_reducible exact LeO.none _)
      | (with_reducible refine LeO.ite ?_ ?_)
      | (with_reducible refine LeO.bind ?_ (fun _ => ?_))
      | exact ih0 _ _ _
      | exact ih1 _ _ _ _
      | exact ih2 _ _ _ _
      | exact ih3 _ _ _ _ _
      | exact ih4 _ _ _ _ _
      | exact text_Numeral.mono _ _
      | exact text_Places.mono _ _ _
      | exact token_place.mono _ _ _
      | exact LeO.none _
      | refine LeO.ite ?_ ?_
      | refine LeO.bind ?_ (fun _ => ?_)
set_option maxHeartbeats 8000000 in
set_option maxRecDepth 100000 in
theorem token_Scan.calls (k : Nat) (a0 : ByteArray) (r1 : List (S30)) (r2 : Int) (r3 : Int) (r4 : Int) (w : World) (h : token_Scan.f k a0 = some (r1, r2, r3, r4)) :
    Calls Try.prog 8 #[.string a0] w fun e w' => ∃ v0_ : Value, e = .returned (.tuple #[v0_, .agg #[.int .i64 r2, .int .i64 r3], .int .i64 r4]) ∧ Kd.R k30 30 w' w.heap.size (fun _ => True) v0_ r1 ∧ Below w.heap.size w w' := by
  have hu24 := Try.underlying24
  have hu30 := Try.underlying30
  have HB := Aside0.mk (Below.refl w.heap.size w)
  have H : (if (a0.size : Int) > 65536 then (some (([] : List (S30)), 1, 1, 90)) else (token_Scan.l0 k a0 ([] : List (S30)) ([] : List Int) 0)) = some (r1, r2, r3, r4) := h
  clear h
  by_cases c2 : (a0.size : Int) > 65536
  · rw [if_pos c2] at H
    have c2b0 : decide (65536 < (a0.size : Int)) = true := decide_eq_true c2
    have c2b1 : decide (65536 < a0.size) = true := decide_eq_true (by omega)
    clear c2
    simp only [Option.some.injEq, Prod.mk.injEq] at H
    obtain ⟨rfl, rfl, rfl, rfl⟩ := H
    go_enter Try.func8, Try.ntmps8
    go_wp2_with (first | ((with_reducible refine gate_dst (N := 3) rfl ?_); refine box_event ?hg (N := 3) ?hd (cs := #[.int .i64 0, .int .i64 0]) (t := 24) ?hr ?_; (case hd => rfl); (case hg => rfl); (case hr => first | (go_simp; done) | (go_simp; rfl)); intro gb126 hg w3 hbox hb; have n0_ := Aside0.mk (below_step (by repeat (first | (with_reducible first | exact HB.out | apply below_alloc | apply pw_below_drewN | apply below_drew1) | exact HB.out)) hb); have n1_ := Aside0.mk (hbox); have n2_ := Aside0.mk ((by rw [hg]; exact (below_size (by repeat (first | (with_reducible first | exact HB.out | apply below_alloc | apply pw_below_drewN | apply below_drew1) | exact HB.out))) : w.heap.size ≤ gb126)); have n3_ := Aside0.mk ((by rw [hg]; exact (below_size (by repeat (first | (with_reducible first | exact HB.out | apply below_alloc | apply pw_below_drewN | apply below_drew1) | exact HB.out))) : w.heap.size ≤ gb126)); clear HB; have HB := n0_; have BK126 := n1_; have GW126 := n2_; have GE126 := n3_; clear n0_ n1_ n2_ n3_; clear hb hbox hg; have hcz4_0 : w3.cell? ⟨gb126, 0, none⟩ = some (.int .i64 0) := (blk_cell BK126.out 0).trans rfl; have hcz4_1 : w3.cell? ⟨gb126, 1, none⟩ = some (.int .i64 0) := (blk_cell BK126.out 1).trans rfl; have hfz4_0 := blk_frozen BK126.out 0; have hfz4_1 := blk_frozen BK126.out 1))
    go_step3
    go_wp2_with (first | ((with_reducible refine gate_dst (N := 3) rfl ?_); refine box_event ?hg (N := 3) ?hd (cs := #[.int .i64 0, .int .i64 0]) (t := 24) ?hr ?_; (case hd => rfl); (case hg => rfl); (case hr => first | (go_simp; done) | (go_simp; rfl)); intro gb126 hg w3 hbox hb; have n0_ := Aside0.mk (below_step (by repeat (first | (with_reducible first | exact HB.out | apply below_alloc | apply pw_below_drewN | apply below_drew1) | exact HB.out)) hb); have n1_ := Aside0.mk (hbox); have n2_ := Aside0.mk ((by rw [hg]; exact (below_size (by repeat (first | (with_reducible first | exact HB.out | apply below_alloc | apply pw_below_drewN | apply below_drew1) | exact HB.out))) : w.heap.size ≤ gb126)); have n3_ := Aside0.mk ((by rw [hg]; exact (below_size (by repeat (first | (with_reducible first | exact HB.out | apply below_alloc | apply pw_below_drewN | apply below_drew1) | exact HB.out))) : w.heap.size ≤ gb126)); clear HB; have HB := n0_; have BK126 := n1_; have GW126 := n2_; have GE126 := n3_; clear n0_ n1_ n2_ n3_; clear hb hbox hg; have hcz4_0 : w3.cell? ⟨gb126, 0, none⟩ = some (.int .i64 0) := (blk_cell BK126.out 0).trans rfl; have hcz4_1 : w3.cell? ⟨gb126, 1, none⟩ = some (.int .i64 0) := (blk_cell BK126.out 1).trans rfl; have hfz4_0 := blk_frozen BK126.out 0; have hfz4_1 := blk_frozen BK126.out 1))
    (try dsimp only [Exit.noGoto])
    refine bodyPost_ret (results_list (rs := [.tmp 2, .cell 3 24, .tmp 4]) rfl (by simp) (.tmp (.cell gb126 24 #[.int .i64 1, .int .i64 1] (0, 0) _ rfl (by (with_reducible repeat (first | refine blk_drewN ?_ _ | refine blk_drew ?_ | refine blk_alloc ?_ _)); refine blk_put (cs := #[.int .i64 1, .int .i64 0]) ?_ 1 _ rfl; (with_reducible repeat (first | refine blk_drewN ?_ _ | refine blk_drew ?_ | refine blk_alloc ?_ _)); refine blk_put (cs := #[.int .i64 0, .int .i64 0]) ?_ 0 _ rfl; (with_reducible repeat (first | refine blk_drewN ?_ _ | refine blk_drew ?_ | refine blk_alloc ?_ _)); exact BK126.out) Try.underlying24 rfl (by kernel_rfl) (.tmp .nil)))) rfl ?_
    exact ⟨_, by first | rfl | (simp [errW_none, errW_some] <;> rfl) | (simp [*, errW_none, errW_some] <;> rfl), by first | exact Kd.R_nil _ _ _ _ _ | exact Kd.N_nil _ _ _ _ _ | exact Kd.V_nil _ _ _ _ _ | exact Kd.Q_nil _ _ _ _ _ | exact Kd.S_nil _ _ _ _ _, by repeat (first | (with_reducible first | exact HB.out | apply below_alloc | apply pw_below_drewN | apply below_drew1 | refine below_set ?_ GE126.out) | exact HB.out)⟩
  · rw [if_neg c2] at H
    have c2b0 : decide (65536 < (a0.size : Int)) = false := decide_eq_false c2
    have c2b1 : decide (65536 < a0.size) = false := decide_eq_false (by omega)
    clear c2
    have HC5 := Aside0.mk H
    clear H
    go_enter Try.func8, Try.ntmps8
    go_wp2_with (first | ((with_reducible refine gate_dst (N := 3) rfl ?_); refine box_event ?hg (N := 3) ?hd (cs := #[.int .i64 0, .int .i64 0]) (t := 24) ?hr ?_; (case hd => rfl); (case hg => rfl); (case hr => first | (go_simp; done) | (go_simp; rfl)); intro gb126 hg w6 hbox hb; have n0_ := Aside0.mk (below_step (by repeat (first | (with_reducible first | exact HB.out | apply below_alloc | apply pw_below_drewN | apply below_drew1) | exact HB.out)) hb); have n1_ := Aside0.mk (hbox); have n2_ := Aside0.mk ((by rw [hg]; exact (below_size (by repeat (first | (with_reducible first | exact HB.out | apply below_alloc | apply pw_below_drewN | apply below_drew1) | exact HB.out))) : w.heap.size ≤ gb126)); have n3_ := Aside0.mk ((by rw [hg]; exact (below_size (by repeat (first | (with_reducible first | exact HB.out | apply below_alloc | apply pw_below_drewN | apply below_drew1) | exact HB.out))) : w.heap.size ≤ gb126)); clear HB; have HB := n0_; have BK126 := n1_; have GW126 := n2_; have GE126 := n3_; clear n0_ n1_ n2_ n3_; clear hb hbox hg))
    go_step3
    go_upto_block 0 with (first | ((with_reducible refine gate_dst (N := 3) rfl ?_); refine box_event ?hg (N := 3) ?hd (cs := #[.int .i64 0, .int .i64 0]) (t := 24) ?hr ?_; (case hd => rfl); (case hg => rfl); (case hr => first | (go_simp; done) | (go_simp; rfl)); intro gb126 hg w6 hbox hb; have n0_ := Aside0.mk (below_step (by repeat (first | (with_reducible first | exact HB.out | apply below_alloc | apply pw_below_drewN | apply below_drew1) | exact HB.out)) hb); have n1_ := Aside0.mk (hbox); have n2_ := Aside0.mk ((by rw [hg]; exact (below_size (by repeat (first | (with_reducible first | exact HB.out | apply below_alloc | apply pw_below_drewN | apply below_drew1) | exact HB.out))) : w.heap.size ≤ gb126)); have n3_ := Aside0.mk ((by rw [hg]; exact (below_size (by repeat (first | (with_reducible first | exact HB.out | apply below_alloc | apply pw_below_drewN | apply below_drew1) | exact HB.out))) : w.heap.size ≤ gb126)); clear HB; have HB := n0_; have BK126 := n1_; have GW126 := n2_; have GE126 := n3_; clear n0_ n1_ n2_ n3_; clear hb hbox hg))
    (try simp only [Act.put, List.setIfInBounds_toArray, List.set_cons_zero, List.set_cons_succ])
    go_step3
    go_upto_block 0 with (fail)
    (try simp only [Act.put, List.setIfInBounds_toArray, List.set_cons_zero, List.set_cons_succ])
    go_cut [5, 6] (fun v5 v6 wc => ∃ (kq : Nat) (x5_4 : List (S30)) (x6_4 : List Int) (x127000_4 : Int) (x127001_4 : Int), Aside0 (token_Scan.j3 kq a0 x5_4 x6_4 = some (r1, r2, r3, r4)) ∧ Aside0 (kq ≤ k) ∧ Aside0 (Kd.R k30 30 wc w.heap.size (fun _ => True) v5 x5_4) ∧ Aside0 (Kd.R (Kd.int .i64) 3 wc w.heap.size (fun _ => True) v6 x6_4) ∧ Aside0 (wc.heap[gb126]? = some (.cells #[.int .i64 x127000_4, .int .i64 x127001_4] 24 (0, 0))) ∧ Aside0 (Below w.heap.size w wc))
    case first =>
      have H := HC5.out
      clear HC5
      have H' := Aside0.mk H
      clear H
      go_wp2
      go_loopg [5, 6, 7] k (fun kq v5 v6 v7 w' => ∃ (x5_1 : List (S30)) (x6_1 : List Int) (x7_1 : Int) (x127000_1 : Int) (x127001_1 : Int), v7 = .int .i64 x7_1 ∧ Aside0 (token_Scan.l0 kq a0 x5_1 x6_1 x7_1 = some (r1, r2, r3, r4)) ∧ Aside0 (kq ≤ k) ∧ Aside0 (Kd.R k30 30 w' w.heap.size (fun _ => True) v5 x5_1) ∧ Aside0 (Kd.R (Kd.int .i64) 3 w' w.heap.size (fun _ => True) v6 x6_1) ∧ Aside0 (w'.heap[gb126]? = some (.cells #[.int .i64 x127000_1, .int .i64 x127001_1] 24 (0, 0))) ∧ Aside0 (Below w.heap.size w w'))
      case atStart => exact ⟨(([] : List (S30))), (([] : List Int)), (0), (0), (0), (by first | rfl | (simp; done) | (simp [*]; done) | (simp [isEmpty_ne]; done)), H', ⟨Nat.le_refl _⟩, ⟨by first | exact Kd.R_nil _ _ _ _ _ | exact Kd.N_nil _ _ _ _ _ | exact Kd.V_nil _ _ _ _ _ | exact Kd.Q_nil _ _ _ _ _ | exact Kd.S_nil _ _ _ _ _⟩, ⟨by first | exact Kd.R_nil _ _ _ _ _ | exact Kd.N_nil _ _ _ _ _ | exact Kd.V_nil _ _ _ _ _ | exact Kd.Q_nil _ _ _ _ _ | exact Kd.S_nil _ _ _ _ _⟩, ⟨by (with_reducible repeat (first | refine blk_drewN ?_ _ | refine blk_drew ?_ | refine blk_alloc ?_ _)); exact BK126.out⟩, ⟨by repeat (first | (with_reducible first | exact HB.out | apply below_alloc | apply pw_below_drewN | apply below_drew1 | refine below_set ?_ GE126.out) | exact HB.out)⟩⟩
      case round =>
        clear H'
        try clear c2
        try clear c2b0
        try clear c2b1
        try clear p2
        try clear hcz4_0
        try clear hcz4_1
        try clear hfz4_0
        try clear hfz4_1
        obtain ⟨x5_1, x6_1, x7_1, x127000_1, x127001_1, rfl, HA, HK1, HO_5, HO_6, BK126, HB⟩ := hrel
        cases gk with
        | zero => exact absurd HA.out (by simp [token_Scan.l0])
        | succ k1 =>
          have H := HA.out
          clear HA
          simp only [token_Scan.l0] at H
          by_cases c7 : x7_1 < (a0.size : Int)
          · rw [if_pos c7] at H
            have c7b0 : decide (x7_1 < (a0.size : Int)) = true := decide_eq_true c7
            clear c7
            (first | rw [c7b0] | (simp only [i64_w, i32_w]; rw [c7b0]) | skip)
            by_cases c8 : 0 ≤ x7_1
            · rw [if_pos c8] at H
              have c8b0 : decide (0 ≤ x7_1) = true := decide_eq_true c8
              clear c8
              replace H := Option.bind_eq_some_iff.mp H
              obtain ⟨t127, A100, H⟩ := H
              replace H : (if t127 = true then (token_Scan.l0 k1 a0 x5_1 x6_1 (wrap64 (x7_1 + 1))) else ((token_part.f (bt a0 x7_1)).bind fun t128 => (if t128 = true then (token_Scan.l1 k1 a0 x5_1 x6_1 x7_1 x7_1) else ((token_place.f k1 a0 x7_1).bind fun bt129 => (some (([] : List (S30)), bt129.1, bt129.2, 91)))))) = some (r1, r2, r3, r4) := H
              have A10 := Aside0.mk A100
              clear A100
              by_cases c11 : t127 = true
              · subst c11
                have H1 : (token_Scan.l0 k1 a0 x5_1 x6_1 (wrap64 (x7_1 + 1))) = some (r1, r2, r3, r4) := by rw [if_pos rfl] at H; exact H
                clear H
                have H := H1
                clear H1
                have H' := Aside0.mk H
                clear H
                have p9 : 0 ≤ (x7_1 : Int) := of_decide_eq_true (by first | (with_reducible assumption) | assumption)
                have q9 : x7_1 < (a0.size : Int) := of_decide_eq_true (by first | (with_reducible assumption) | assumption)
                have hx9 := bt_at a0 x7_1
                replace p9 := eq_true p9
                replace q9 := eq_true q9
                go_wp2_with (first | ((with_reducible refine gate_callee (f := 19) rfl ?_); refine goesL_ (some 28) rfl rfl Try.func19 (by kernel_rfl) rfl #[.int .u8 (bt a0 x7_1)] rfl (by (try simp only [List.map_toArray, List.map_cons, List.map_nil]); first | done | rfl | (simp only [List.length_drop, List.length_take]; rfl)) ?_; (with_reducible refine (token_blank.calls (bt a0 x7_1) true _ A10.out).mono ?_); rintro e w' ⟨rfl, ⟨nd, rfl⟩⟩; refine ⟨_, rfl, ?_⟩))
                go_roundg k1
                case measure => have := HK1.out; omega
                case rel => exact ⟨(x5_1), (x6_1), (wrap64 (x7_1 + 1)), (x127000_1), (x127001_1), (by first | rfl | (simp; done) | (simp [*]; done) | (simp [isEmpty_ne]; done)), H', ⟨by have := HK1.out; omega⟩, ⟨by (with_reducible repeat (first | apply Kd.R_alloc | apply Kd.R_drewN | apply Kd.R_drew)); exact HO_5.out⟩, ⟨by (with_reducible repeat (first | apply Kd.R_alloc | apply Kd.R_drewN | apply Kd.R_drew)); exact HO_6.out⟩, ⟨by (with_reducible repeat (first | refine blk_drewN ?_ _ | refine blk_drew ?_ | refine blk_alloc ?_ _)); exact BK126.out⟩, ⟨by repeat (first | (with_reducible first | exact HB.out | apply below_alloc | apply pw_below_drewN | apply below_drew1 | refine below_set ?_ GE126.out) | exact HB.out)⟩⟩
              · replace c11 := Bool.eq_false_iff.mpr c11
                subst c11
                have H1 : ((token_part.f (bt a0 x7_1)).bind fun t128 => (if t128 = true then (token_Scan.l1 k1 a0 x5_1 x6_1 x7_1 x7_1) else ((token_place.f k1 a0 x7_1).bind fun bt129 => (some (([] : List (S30)), bt129.1, bt129.2, 91))))) = some (r1, r2, r3, r4) := by rw [if_neg (show ¬ (false = true) by decide)] at H; exact H
                clear H
                have H := H1
                clear H1
                replace H := Option.bind_eq_some_iff.mp H
                obtain ⟨t128, A130, H⟩ := H
                replace H : (if t128 = true then (token_Scan.l1 k1 a0 x5_1 x6_1 x7_1 x7_1) else ((token_place.f k1 a0 x7_1).bind fun bt129 => (some (([] : List (S30)), bt129.1, bt129.2, 91)))) = some (r1, r2, r3, r4) := H
                have A13 := Aside0.mk A130
                clear A130
                by_cases c14 : t128 = true
                · subst c14
                  have H1 : (token_Scan.l1 k1 a0 x5_1 x6_1 x7_1 x7_1) = some (r1, r2, r3, r4) := by rw [if_pos rfl] at H; exact H
                  clear H
                  have H := H1
                  clear H1
                  have HC15 := Aside0.mk H
                  clear H
                  have p9 : 0 ≤ (x7_1 : Int) := of_decide_eq_true (by first | (with_reducible assumption) | assumption)
                  have q9 : x7_1 < (a0.size : Int) := of_decide_eq_true (by first | (with_reducible assumption) | assumption)
                  have hx9 := bt_at a0 x7_1
                  replace p9 := eq_true p9
                  replace q9 := eq_true q9
                  go_upto_block 2 with (first | ((with_reducible refine gate_callee (f := 19) rfl ?_); refine goesL_ (some 28) rfl rfl Try.func19 (by kernel_rfl) rfl #[.int .u8 (bt a0 x7_1)] rfl (by (try simp only [List.map_toArray, List.map_cons, List.map_nil]); first | done | rfl | (simp only [List.length_drop, List.length_take]; rfl)) ?_; (with_reducible refine (token_blank.calls (bt a0 x7_1) false _ A10.out).mono ?_); rintro e w' ⟨rfl, ⟨nd, rfl⟩⟩; refine ⟨_, rfl, ?_⟩; have p12 : 0 ≤ (x7_1 : Int) := of_decide_eq_true (by first | (with_reducible assumption) | assumption); have q12 : x7_1 < (a0.size : Int) := of_decide_eq_true (by first | (with_reducible assumption) | assumption); have hx12 := bt_at a0 x7_1; replace p12 := eq_true p12; replace q12 := eq_true q12) | ((with_reducible refine gate_callee (f := 20) rfl ?_); refine goesL_ (some 34) rfl rfl Try.func20 (by kernel_rfl) rfl #[.int .u8 (bt a0 x7_1)] rfl (by (try simp only [List.map_toArray, List.map_cons, List.map_nil]); first | done | rfl | (simp only [List.length_drop, List.length_take]; rfl)) ?_; (with_reducible refine (token_part.calls (bt a0 x7_1) true _ A13.out).mono ?_); rintro e w' ⟨rfl, ⟨nd, rfl⟩⟩; refine ⟨_, rfl, ?_⟩))
                  (try simp only [Act.put, List.setIfInBounds_toArray, List.set_cons_zero, List.set_cons_succ])
                  go_cut [8] (fun v8 wc => ∃ (kq : Nat) (x8_14 : Int), v8 = .int .i64 x8_14 ∧ Aside0 (token_Scan.j2 kq a0 x5_1 x6_1 x7_1 x8_14 = some (r1, r2, r3, r4)) ∧ Aside0 (kq ≤ k1) ∧ Aside0 (Kd.R k30 30 wc w.heap.size (fun _ => True) u5 x5_1) ∧ Aside0 (Kd.R (Kd.int .i64) 3 wc w.heap.size (fun _ => True) u6 x6_1) ∧ Aside0 (wc.heap[gb126]? = some (.cells #[.int .i64 x127000_1, .int .i64 x127001_1] 24 (0, 0))) ∧ Aside0 (Below w.heap.size w wc))
                  case first =>
                    have H := HC15.out
                    clear HC15
                    have H' := Aside0.mk H
                    clear H
                    go_wp2
                    go_loopg [8] k1 (fun kq v8 w' => ∃ (x8_2 : Int), v8 = .int .i64 x8_2 ∧ Aside0 (token_Scan.l1 kq a0 x5_1 x6_1 x7_1 x8_2 = some (r1, r2, r3, r4)) ∧ Aside0 (kq ≤ k1) ∧ Aside0 (Kd.R k30 30 w' w.heap.size (fun _ => True) u5 x5_1) ∧ Aside0 (Kd.R (Kd.int .i64) 3 w' w.heap.size (fun _ => True) u6 x6_1) ∧ Aside0 (w'.heap[gb126]? = some (.cells #[.int .i64 x127000_1, .int .i64 x127001_1] 24 (0, 0))) ∧ Aside0 (Below w.heap.size w w'))
                    case atStart => exact ⟨(x7_1), (by first | rfl | (simp; done) | (simp [*]; done) | (simp [isEmpty_ne]; done)), H', ⟨Nat.le_refl _⟩, ⟨by (with_reducible repeat (first | apply Kd.R_alloc | apply Kd.R_drewN | apply Kd.R_drew)); exact HO_5.out⟩, ⟨by (with_reducible repeat (first | apply Kd.R_alloc | apply Kd.R_drewN | apply Kd.R_drew)); exact HO_6.out⟩, ⟨by (with_reducible repeat (first | refine blk_drewN ?_ _ | refine blk_drew ?_ | refine blk_alloc ?_ _)); exact BK126.out⟩, ⟨by repeat (first | (with_reducible first | exact HB.out | apply below_alloc | apply pw_below_drewN | apply below_drew1 | refine below_set ?_ GE126.out) | exact HB.out)⟩⟩
                    case round =>
                      clear H'
                      try clear c1
                      try clear p1
                      try clear q1
                      try clear hx1
                      try clear c2
                      try clear c2b0
                      try clear c2b1
                      try clear p2
                      try clear p6
                      try clear c7
                      try clear c7b0
                      try clear c8
                      try clear c8b0
                      try clear p9
                      try clear q9
                      try clear hx9
                      try clear c11
                      try clear p12
                      try clear q12
                      try clear hx12
                      try clear c14
                      try clear hcz4_0
                      try clear hcz4_1
                      try clear hfz4_0
                      try clear hfz4_1
                      try clear p12
                      try clear p2
                      try clear p9
                      try clear q12
                      try clear q9
                      obtain ⟨x8_2, rfl, HA, HK2, HO_5, HO_6, BK126, HB⟩ := hrel
                      cases gk with
                      | zero => exact absurd HA.out (by simp [token_Scan.l1])
                      | succ k2 =>
                        have H := HA.out
                        clear HA
                        simp only [token_Scan.l1] at H
                        by_cases c16 : x8_2 < (a0.size : Int)
                        · rw [if_pos c16] at H
                          have c16b0 : decide (x8_2 < (a0.size : Int)) = true := decide_eq_true c16
                          clear c16
                          (first | rw [c16b0] | (simp only [i64_w, i32_w]; rw [c16b0]) | skip)
                          by_cases c17 : 0 ≤ x8_2
                          · rw [if_pos c17] at H
                            have c17b0 : decide (0 ≤ x8_2) = true := decide_eq_true c17
                            clear c17
                            replace H := Option.bind_eq_some_iff.mp H
                            obtain ⟨t131, A190, H⟩ := H
                            replace H : (if t131 = true then (token_Scan.l1 k2 a0 x5_1 x6_1 x7_1 (wrap64 (x8_2 + 1))) else (token_Scan.j2 k2 a0 x5_1 x6_1 x7_1 x8_2)) = some (r1, r2, r3, r4) := H
                            have A19 := Aside0.mk A190
                            clear A190
                            by_cases c20 : t131 = true
                            · subst c20
                              have H1 : (token_Scan.l1 k2 a0 x5_1 x6_1 x7_1 (wrap64 (x8_2 + 1))) = some (r1, r2, r3, r4) := by rw [if_pos rfl] at H; exact H
                              clear H
                              have H := H1
                              clear H1
                              have H' := Aside0.mk H
                              clear H
                              have p18 : 0 ≤ (x8_2 : Int) := of_decide_eq_true (by first | (with_reducible assumption) | assumption)
                              have q18 : x8_2 < (a0.size : Int) := of_decide_eq_true (by first | (with_reducible assumption) | assumption)
                              have hx18 := bt_at a0 x8_2
                              replace p18 := eq_true p18
                              replace q18 := eq_true q18
                              go_wp2_with (first | (go_at_call 20; (with_reducible refine (token_part.calls (bt a0 x8_2) true _ A19.out).mono ?_); rintro e w' ⟨rfl, ⟨nd, rfl⟩⟩))
                              go_roundg k2
                              case measure => have := HK1.out; have := HK2.out; omega
                              case rel => exact ⟨(wrap64 (x8_2 + 1)), (by first | rfl | (simp; done) | (simp [*]; done) | (simp [isEmpty_ne]; done)), H', ⟨by have := HK1.out; have := HK2.out; omega⟩, ⟨by (with_reducible repeat (first | apply Kd.R_alloc | apply Kd.R_drewN | apply Kd.R_drew)); exact HO_5.out⟩, ⟨by (with_reducible repeat (first | apply Kd.R_alloc | apply Kd.R_drewN | apply Kd.R_drew)); exact HO_6.out⟩, ⟨by (with_reducible repeat (first | refine blk_drewN ?_ _ | refine blk_drew ?_ | refine blk_alloc ?_ _)); exact BK126.out⟩, ⟨by repeat (first | (with_reducible first | exact HB.out | apply below_alloc | apply pw_below_drewN | apply below_drew1 | refine below_set ?_ GE126.out) | exact HB.out)⟩⟩
                            · replace c20 := Bool.eq_false_iff.mpr c20
                              subst c20
                              have H1 : (token_Scan.j2 k2 a0 x5_1 x6_1 x7_1 x8_2) = some (r1, r2, r3, r4) := by rw [if_neg (show ¬ (false = true) by decide)] at H; exact H
                              clear H
                              have H := H1
                              clear H1
                              have H' := Aside0.mk H
                              clear H
                              have p18 : 0 ≤ (x8_2 : Int) := of_decide_eq_true (by first | (with_reducible assumption) | assumption)
                              have q18 : x8_2 < (a0.size : Int) := of_decide_eq_true (by first | (with_reducible assumption) | assumption)
                              have hx18 := bt_at a0 x8_2
                              replace p18 := eq_true p18
                              replace q18 := eq_true q18
                              go_wp2_with (first | (go_at_call 20; (with_reducible refine (token_part.calls (bt a0 x8_2) false _ A19.out).mono ?_); rintro e w' ⟨rfl, ⟨nd, rfl⟩⟩))
                              go_meet
                              case rel => exact ⟨_, (x8_2), (by first | rfl | (simp; done) | (simp [*]; done) | (simp [isEmpty_ne]; done)), H', ⟨by have := HK1.out; have := HK2.out; first | omega | exact Nat.le_refl _⟩, ⟨by (with_reducible repeat (first | apply Kd.R_alloc | apply Kd.R_drewN | apply Kd.R_drew)); exact HO_5.out⟩, ⟨by (with_reducible repeat (first | apply Kd.R_alloc | apply Kd.R_drewN | apply Kd.R_drew)); exact HO_6.out⟩, ⟨by (with_reducible repeat (first | refine blk_drewN ?_ _ | refine blk_drew ?_ | refine blk_alloc ?_ _)); exact BK126.out⟩, ⟨by repeat (first | (with_reducible first | exact HB.out | apply below_alloc | apply pw_below_drewN | apply below_drew1 | refine below_set ?_ GE126.out) | exact HB.out)⟩⟩
                          · rw [if_neg c17] at H
                            exact absurd H (by simp)
                        · rw [if_neg c16] at H
                          have c16b0 : decide (x8_2 < (a0.size : Int)) = false := decide_eq_false c16
                          clear c16
                          (first | rw [c16b0] | (simp only [i64_w, i32_w]; rw [c16b0]) | skip)
                          have H' := Aside0.mk H
                          clear H
                          go_wp2
                          go_meet
                          case rel => exact ⟨_, (x8_2), (by first | rfl | (simp; done) | (simp [*]; done) | (simp [isEmpty_ne]; done)), H', ⟨by have := HK1.out; have := HK2.out; first | omega | exact Nat.le_refl _⟩, ⟨by (with_reducible repeat (first | apply Kd.R_alloc | apply Kd.R_drewN | apply Kd.R_drew)); exact HO_5.out⟩, ⟨by (with_reducible repeat (first | apply Kd.R_alloc | apply Kd.R_drewN | apply Kd.R_drew)); exact HO_6.out⟩, ⟨by (with_reducible repeat (first | refine blk_drewN ?_ _ | refine blk_drew ?_ | refine blk_alloc ?_ _)); exact BK126.out⟩, ⟨by repeat (first | (with_reducible first | exact HB.out | apply below_alloc | apply pw_below_drewN | apply below_drew1 | refine below_set ?_ GE126.out) | exact HB.out)⟩⟩
                  case rest =>
                    clear HC15
                    try clear c1
                    try clear p1
                    try clear q1
                    try clear hx1
                    try clear c2
                    try clear c2b0
                    try clear c2b1
                    try clear p2
                    try clear p6
                    try clear c7
                    try clear c7b0
                    try clear c8
                    try clear c8b0
                    try clear p9
                    try clear q9
                    try clear hx9
                    try clear c11
                    try clear p12
                    try clear q12
                    try clear hx12
                    try clear c14
                    try clear c16
                    try clear c16b0
                    try clear c17
                    try clear c17b0
                    try clear p18
                    try clear q18
                    try clear hx18
                    try clear c19
                    try clear c20
                    try clear hcz4_0
                    try clear hcz4_1
                    try clear hfz4_0
                    try clear hfz4_1
                    try clear p1
                    try clear p12
                    try clear p18
                    try clear p2
                    try clear p6
                    try clear p9
                    try clear q1
                    try clear q12
                    try clear q18
                    try clear q9
                    obtain ⟨kq, x8_14, rfl, HA, HJ14, HO_5, HO_6, BK126, HB⟩ := hcut
                    cases kq with
                    | zero => exact absurd HA.out (by simp [token_Scan.j2])
                    | succ kj14 =>
                      have H := HA.out
                      clear HA
                      simp only [token_Scan.j2] at H
                      by_cases c21 : 0 ≤ x7_1
                      · rw [if_pos c21] at H
                        have c21b0 := eq_true c21
                        have c21b1 : decide (0 ≤ x7_1) = true := decide_eq_true c21
                        clear c21
                        by_cases c22 : x7_1 ≤ x8_14
                        · rw [if_pos c22] at H
                          have c22b0 := eq_true c22
                          have c22b1 : decide (x7_1 ≤ x8_14) = true := decide_eq_true c22
                          clear c22
                          by_cases c23 : x8_14 ≤ (a0.size : Int)
                          · rw [if_pos c23] at H
                            have c23b0 := eq_true c23
                            have c23b1 : decide (x8_14 ≤ (a0.size : Int)) = true := decide_eq_true c23
                            clear c23
                            obtain ⟨sw_, hsw_⟩ : ∃ s_ : ByteArray, a0.extract (x7_1 : Int).toNat (x8_14 : Int).toNat = s_ := ⟨_, rfl⟩
                            rw [hsw_] at H
                            by_cases c24 : sw_.toList = ([92] : List UInt8)
                            · rw [if_pos c24] at H
                              have c24b0 : (sw_.toList == ([92] : List UInt8)) = true := beq_iff_eq.mpr c24
                              have c24b1 : (sw_.toList != ([92] : List UInt8)) = false := bne_eq_false_iff_eq.mpr c24
                              clear c24
                              by_cases c25 : 0 ≤ x8_14
                              · rw [if_pos c25] at H
                                have c25b0 := eq_true c25
                                have c25b1 : decide (0 ≤ x8_14) = true := decide_eq_true c25
                                clear c25
                                have c26b0 := eq_true (of_decide_eq_true (by first | (with_reducible assumption) | assumption) : x8_14 ≤ (a0.size : Int))
                                replace H := Option.bind_eq_some_iff.mp H
                                obtain ⟨t132, A270, H⟩ := H
                                replace H : (if t132 < 0 then (token_Scan.j3 kj14 a0 x5_1 x6_1) else (token_Scan.l0 kj14 a0 x5_1 x6_1 (wrap64 ((wrap64 (x8_14 + t132)) + 1)))) = some (r1, r2, r3, r4) := H
                                have A27 := Aside0.mk A270
                                clear A270
                                by_cases c28 : t132 < 0
                                · rw [if_pos c28] at H
                                  have c28b0 : decide (t132 < 0) = true := decide_eq_true c28
                                  clear c28
                                  have H' := Aside0.mk H
                                  clear H
                                  go_wp2_with (first | ((with_reducible refine gate_callee (f := 22) rfl ?_); refine goesL_ (some 62) rfl rfl Try.func22 (by kernel_rfl) rfl #[.string (a0.extract (x8_14 : Int).toNat a0.size), .int .u8 10] rfl (by (try simp only [List.map_toArray, List.map_cons, List.map_nil]); first | done | rfl | (simp only [List.length_drop, List.length_take]; rfl)) ?_; (with_reducible refine (strings_IndexByte.calls (a0.extract (x8_14 : Int).toNat a0.size) 10 t132 _ A27.out).mono ?_); rintro e w' ⟨rfl, ⟨nd, rfl⟩⟩; refine ⟨_, rfl, ?_⟩))
                                  go_meet
                                  case rel => exact ⟨_, (x5_1), (x6_1), (x127000_1), (x127001_1), H', ⟨by have := HK1.out; have := HJ14.out; first | omega | exact Nat.le_refl _⟩, ⟨by (with_reducible repeat (first | apply Kd.R_alloc | apply Kd.R_drewN | apply Kd.R_drew)); exact HO_5.out⟩, ⟨by (with_reducible repeat (first | apply Kd.R_alloc | apply Kd.R_drewN | apply Kd.R_drew)); exact HO_6.out⟩, ⟨by (with_reducible repeat (first | refine blk_drewN ?_ _ | refine blk_drew ?_ | refine blk_alloc ?_ _)); exact BK126.out⟩, ⟨by repeat (first | (with_reducible first | exact HB.out | apply below_alloc | apply pw_below_drewN | apply below_drew1 | refine below_set ?_ GE126.out) | exact HB.out)⟩⟩
                                · rw [if_neg c28] at H
                                  have c28b0 : decide (t132 < 0) = false := decide_eq_false c28
                                  clear c28
                                  have H' := Aside0.mk H
                                  clear H
                                  go_wp2_with (first | ((with_reducible refine gate_callee (f := 22) rfl ?_); refine goesL_ (some 62) rfl rfl Try.func22 (by kernel_rfl) rfl #[.string (a0.extract (x8_14 : Int).toNat a0.size), .int .u8 10] rfl (by (try simp only [List.map_toArray, List.map_cons, List.map_nil]); first | done | rfl | (simp only [List.length_drop, List.length_take]; rfl)) ?_; (with_reducible refine (strings_IndexByte.calls (a0.extract (x8_14 : Int).toNat a0.size) 10 t132 _ A27.out).mono ?_); rintro e w' ⟨rfl, ⟨nd, rfl⟩⟩; refine ⟨_, rfl, ?_⟩))
                                  go_roundg kj14
                                  case measure => have := HK1.out; have := HJ14.out; omega
                                  case rel => exact ⟨(x5_1), (x6_1), (wrap64 ((wrap64 (x8_14 + t132)) + 1)), (x127000_1), (x127001_1), (by first | rfl | (simp; done) | (simp [*]; done) | (simp [isEmpty_ne]; done)), H', ⟨by have := HK1.out; have := HJ14.out; omega⟩, ⟨by (with_reducible repeat (first | apply Kd.R_alloc | apply Kd.R_drewN | apply Kd.R_drew)); exact HO_5.out⟩, ⟨by (with_reducible repeat (first | apply Kd.R_alloc | apply Kd.R_drewN | apply Kd.R_drew)); exact HO_6.out⟩, ⟨by (with_reducible repeat (first | refine blk_drewN ?_ _ | refine blk_drew ?_ | refine blk_alloc ?_ _)); exact BK126.out⟩, ⟨by repeat (first | (with_reducible first | exact HB.out | apply below_alloc | apply pw_below_drewN | apply below_drew1 | refine below_set ?_ GE126.out) | exact HB.out)⟩⟩
                              · rw [if_neg c25] at H
                                exact absurd H (by simp)
                            · rw [if_neg c24] at H
                              have c24b0 : (sw_.toList == ([92] : List UInt8)) = false := beq_eq_false_iff_ne.mpr c24
                              have c24b1 : (sw_.toList != ([92] : List UInt8)) = true := bne_iff_ne.mpr c24
                              by_cases c29 : sw_.toList = ([40] : List UInt8)
                              · rw [if_pos c29] at H
                                have c29b0 : (sw_.toList == ([40] : List UInt8)) = true := beq_iff_eq.mpr c29
                                have c29b1 : (sw_.toList != ([40] : List UInt8)) = false := bne_eq_false_iff_eq.mpr c29
                                clear c29
                                by_cases c30 : 0 ≤ x8_14
                                · rw [if_pos c30] at H
                                  have c30b0 := eq_true c30
                                  have c30b1 : decide (0 ≤ x8_14) = true := decide_eq_true c30
                                  clear c30
                                  have c31b0 := eq_true (of_decide_eq_true (by first | (with_reducible assumption) | assumption) : x8_14 ≤ (a0.size : Int))
                                  replace H := Option.bind_eq_some_iff.mp H
                                  obtain ⟨t133, A320, H⟩ := H
                                  replace H : (if t133 < 0 then ((token_place.f kj14 a0 x7_1).bind fun bt134 => (some (([] : List (S30)), bt134.1, bt134.2, 92))) else (token_Scan.l0 kj14 a0 x5_1 x6_1 (wrap64 ((wrap64 (x8_14 + t133)) + 1)))) = some (r1, r2, r3, r4) := H
                                  have A32 := Aside0.mk A320
                                  clear A320
                                  by_cases c33 : t133 < 0
                                  · rw [if_pos c33] at H
                                    have c33b0 : decide (t133 < 0) = true := decide_eq_true c33
                                    clear c33
                                    replace H := Option.bind_eq_some_iff.mp H
                                    obtain ⟨⟨t134, t135⟩, A340, H⟩ := H
                                    replace H : (some (([] : List (S30)), t134, t135, 92)) = some (r1, r2, r3, r4) := H
                                    have A34 := Aside0.mk A340
                                    clear A340
                                    simp only [Option.some.injEq, Prod.mk.injEq] at H
                                    obtain ⟨rfl, rfl, rfl, rfl⟩ := H
                                    go_wp2_with (first | ((with_reducible refine gate_callee (f := 22) rfl ?_); refine goesL_ (some 75) rfl rfl Try.func22 (by kernel_rfl) rfl #[.string (a0.extract (x8_14 : Int).toNat a0.size), .int .u8 41] rfl (by (try simp only [List.map_toArray, List.map_cons, List.map_nil]); first | done | rfl | (simp only [List.length_drop, List.length_take]; rfl)) ?_; (with_reducible refine (strings_IndexByte.calls (a0.extract (x8_14 : Int).toNat a0.size) 41 t133 _ A32.out).mono ?_); rintro e w' ⟨rfl, ⟨nd, rfl⟩⟩; refine ⟨_, rfl, ?_⟩; (try (rw [drewN_self wc]; generalize hq_ : World.drewN wc _ = wc; have n0_ : Aside0 (Kd.R k30 30 wc w.heap.size (fun _ => True) u5 x5_1) := ⟨by rw [← hq_]; exact (by (with_reducible repeat (first | apply Kd.R_alloc | apply Kd.R_drewN | apply Kd.R_drew)); exact HO_5.out)⟩; have n1_ : Aside0 (Kd.R (Kd.int .i64) 3 wc w.heap.size (fun _ => True) u6 x6_1) := ⟨by rw [← hq_]; exact (by (with_reducible repeat (first | apply Kd.R_alloc | apply Kd.R_drewN | apply Kd.R_drew)); exact HO_6.out)⟩; have n2_ : Aside0 (wc.heap[gb126]? = some (.cells #[.int .i64 x127000_1, .int .i64 x127001_1] 24 (0, 0))) := ⟨by rw [← hq_]; exact (by (with_reducible repeat (first | refine blk_drewN ?_ _ | refine blk_drew ?_ | refine blk_alloc ?_ _)); exact BK126.out)⟩; have n3_ : Aside0 (Below w.heap.size w wc) := ⟨by rw [← hq_]; exact (by repeat (first | (with_reducible first | exact HB.out | apply below_alloc | apply pw_below_drewN | apply below_drew1 | refine below_set ?_ GE126.out) | exact HB.out))⟩; clear HO_5 HO_6 BK126 HB hq_; have HO_5 := n0_; have HO_6 := n1_; have BK126 := n2_; have HB := n3_; clear n0_ n1_ n2_ n3_))) | ((with_reducible refine gate_callee (f := 21) rfl ?_); refine goesL_ (some 80) rfl rfl Try.func21 (by kernel_rfl) rfl #[.string a0, .int .i64 x7_1] rfl (by (try simp only [List.map_toArray, List.map_cons, List.map_nil]); first | done | rfl | (simp only [List.length_drop, List.length_take]; rfl)) ?_; (with_reducible refine (token_place.calls kj14 a0 x7_1 t134 t135 _ A34.out).mono ?_); rintro e w35 ⟨rfl, hb⟩; refine ⟨_, rfl, ?_⟩; have n0_ := Aside0.mk (Kd.R_below (by (with_reducible repeat (first | apply Kd.R_alloc | apply Kd.R_drewN | apply Kd.R_drew)); exact HO_5.out) hb); have n1_ := Aside0.mk (Kd.R_below (by (with_reducible repeat (first | apply Kd.R_alloc | apply Kd.R_drewN | apply Kd.R_drew)); exact HO_6.out) hb); have n2_ := Aside0.mk (blk_below (g := gb126) (o := .cells #[.int .i64 x127000_1, .int .i64 x127001_1] 24 (0, 0)) (by (with_reducible repeat (first | refine blk_drewN ?_ _ | refine blk_drew ?_ | refine blk_alloc ?_ _)); exact BK126.out) hb); have n3_ := Aside0.mk (below_step (by repeat (first | (with_reducible first | exact HB.out | apply below_alloc | apply pw_below_drewN | apply below_drew1 | refine below_set ?_ GE126.out) | exact HB.out)) hb); clear HO_5; clear HO_6; clear BK126; clear HB; have HO_5 := n0_; have HO_6 := n1_; have BK126 := n2_; have HB := n3_; clear n0_ n1_ n2_ n3_; (try clear hb); (try clear hb2); (try clear hk); (try clear hi); have hcz36_0 : w35.cell? ⟨gb126, 0, none⟩ = some (.int .i64 x127000_1) := (blk_cell BK126.out 0).trans rfl; have hcz36_1 : w35.cell? ⟨gb126, 1, none⟩ = some (.int .i64 x127001_1) := (blk_cell BK126.out 1).trans rfl; have hfz36_0 := blk_frozen BK126.out 0; have hfz36_1 := blk_frozen BK126.out 1))
                                    (try dsimp only [Exit.noGoto])
                                    refine bodyPost_ret (results_list (rs := [.tmp 2, .cell 3 24, .tmp 4]) rfl (by simp) (.tmp (.cell gb126 24 #[.int .i64 t134, .int .i64 t135] (0, 0) _ rfl (by (with_reducible repeat (first | refine blk_drewN ?_ _ | refine blk_drew ?_ | refine blk_alloc ?_ _)); refine blk_put (cs := #[.int .i64 t134, .int .i64 x127001_1]) ?_ 1 _ rfl; (with_reducible repeat (first | refine blk_drewN ?_ _ | refine blk_drew ?_ | refine blk_alloc ?_ _)); refine blk_put (cs := #[.int .i64 x127000_1, .int .i64 x127001_1]) ?_ 0 _ rfl; (with_reducible repeat (first | refine blk_drewN ?_ _ | refine blk_drew ?_ | refine blk_alloc ?_ _)); exact BK126.out) Try.underlying24 rfl (by kernel_rfl) (.tmp .nil)))) rfl ?_
                                    exact ⟨_, by first | rfl | (simp [errW_none, errW_some] <;> rfl) | (simp [*, errW_none, errW_some] <;> rfl), by first | exact Kd.R_nil _ _ _ _ _ | exact Kd.N_nil _ _ _ _ _ | exact Kd.V_nil _ _ _ _ _ | exact Kd.Q_nil _ _ _ _ _ | exact Kd.S_nil _ _ _ _ _, by repeat (first | (with_reducible first | exact HB.out | apply below_alloc | apply pw_below_drewN | apply below_drew1 | refine below_set ?_ GE126.out) | exact HB.out)⟩
                                  · rw [if_neg c33] at H
                                    have c33b0 : decide (t133 < 0) = false := decide_eq_false c33
                                    clear c33
                                    have H' := Aside0.mk H
                                    clear H
                                    go_wp2_with (first | ((with_reducible refine gate_callee (f := 22) rfl ?_); refine goesL_ (some 75) rfl rfl Try.func22 (by kernel_rfl) rfl #[.string (a0.extract (x8_14 : Int).toNat a0.size), .int .u8 41] rfl (by (try simp only [List.map_toArray, List.map_cons, List.map_nil]); first | done | rfl | (simp only [List.length_drop, List.length_take]; rfl)) ?_; (with_reducible refine (strings_IndexByte.calls (a0.extract (x8_14 : Int).toNat a0.size) 41 t133 _ A32.out).mono ?_); rintro e w' ⟨rfl, ⟨nd, rfl⟩⟩; refine ⟨_, rfl, ?_⟩))
                                    go_roundg kj14
                                    case measure => have := HK1.out; have := HJ14.out; omega
                                    case rel => exact ⟨(x5_1), (x6_1), (wrap64 ((wrap64 (x8_14 + t133)) + 1)), (x127000_1), (x127001_1), (by first | rfl | (simp; done) | (simp [*]; done) | (simp [isEmpty_ne]; done)), H', ⟨by have := HK1.out; have := HJ14.out; omega⟩, ⟨by (with_reducible repeat (first | apply Kd.R_alloc | apply Kd.R_drewN | apply Kd.R_drew)); exact HO_5.out⟩, ⟨by (with_reducible repeat (first | apply Kd.R_alloc | apply Kd.R_drewN | apply Kd.R_drew)); exact HO_6.out⟩, ⟨by (with_reducible repeat (first | refine blk_drewN ?_ _ | refine blk_drew ?_ | refine blk_alloc ?_ _)); exact BK126.out⟩, ⟨by repeat (first | (with_reducible first | exact HB.out | apply below_alloc | apply pw_below_drewN | apply below_drew1 | refine below_set ?_ GE126.out) | exact HB.out)⟩⟩
                                · rw [if_neg c30] at H
                                  exact absurd H (by simp)
                              · rw [if_neg c29] at H
                                have c29b0 : (sw_.toList == ([40] : List UInt8)) = false := beq_eq_false_iff_ne.mpr c29
                                have c29b1 : (sw_.toList != ([40] : List UInt8)) = true := bne_iff_ne.mpr c29
                                by_cases c37 : (sw_.size : Int) > 31
                                · rw [if_pos c37] at H
                                  have c37b0 : decide (31 < (sw_.size : Int)) = true := decide_eq_true c37
                                  have c37b1 : decide (31 < sw_.size) = true := decide_eq_true (by omega)
                                  clear c37
                                  replace H := Option.bind_eq_some_iff.mp H
                                  obtain ⟨⟨t136, t137⟩, A380, H⟩ := H
                                  replace H : (some (([] : List (S30)), t136, t137, 93)) = some (r1, r2, r3, r4) := H
                                  have A38 := Aside0.mk A380
                                  clear A380
                                  simp only [Option.some.injEq, Prod.mk.injEq] at H
                                  obtain ⟨rfl, rfl, rfl, rfl⟩ := H
                                  go_wp2_with (first | ((with_reducible refine gate_callee (f := 21) rfl ?_); refine goesL_ (some 91) rfl rfl Try.func21 (by kernel_rfl) rfl #[.string a0, .int .i64 x7_1] rfl (by (try simp only [List.map_toArray, List.map_cons, List.map_nil]); first | done | rfl | (simp only [List.length_drop, List.length_take]; rfl)) ?_; (with_reducible refine (token_place.calls kj14 a0 x7_1 t136 t137 _ A38.out).mono ?_); rintro e w39 ⟨rfl, hb⟩; refine ⟨_, rfl, ?_⟩; have n0_ := Aside0.mk (Kd.R_below (by (with_reducible repeat (first | apply Kd.R_alloc | apply Kd.R_drewN | apply Kd.R_drew)); exact HO_5.out) hb); have n1_ := Aside0.mk (Kd.R_below (by (with_reducible repeat (first | apply Kd.R_alloc | apply Kd.R_drewN | apply Kd.R_drew)); exact HO_6.out) hb); have n2_ := Aside0.mk (blk_below (g := gb126) (o := .cells #[.int .i64 x127000_1, .int .i64 x127001_1] 24 (0, 0)) (by (with_reducible repeat (first | refine blk_drewN ?_ _ | refine blk_drew ?_ | refine blk_alloc ?_ _)); exact BK126.out) hb); have n3_ := Aside0.mk (below_step (by repeat (first | (with_reducible first | exact HB.out | apply below_alloc | apply pw_below_drewN | apply below_drew1 | refine below_set ?_ GE126.out) | exact HB.out)) hb); clear HO_5; clear HO_6; clear BK126; clear HB; have HO_5 := n0_; have HO_6 := n1_; have BK126 := n2_; have HB := n3_; clear n0_ n1_ n2_ n3_; (try clear hb); (try clear hb2); (try clear hk); (try clear hi); have hcz40_0 : w39.cell? ⟨gb126, 0, none⟩ = some (.int .i64 x127000_1) := (blk_cell BK126.out 0).trans rfl; have hcz40_1 : w39.cell? ⟨gb126, 1, none⟩ = some (.int .i64 x127001_1) := (blk_cell BK126.out 1).trans rfl; have hfz40_0 := blk_frozen BK126.out 0; have hfz40_1 := blk_frozen BK126.out 1))
                                  (try dsimp only [Exit.noGoto])
                                  refine bodyPost_ret (results_list (rs := [.tmp 2, .cell 3 24, .tmp 4]) rfl (by simp) (.tmp (.cell gb126 24 #[.int .i64 t136, .int .i64 t137] (0, 0) _ rfl (by (with_reducible repeat (first | refine blk_drewN ?_ _ | refine blk_drew ?_ | refine blk_alloc ?_ _)); refine blk_put (cs := #[.int .i64 t136, .int .i64 x127001_1]) ?_ 1 _ rfl; (with_reducible repeat (first | refine blk_drewN ?_ _ | refine blk_drew ?_ | refine blk_alloc ?_ _)); refine blk_put (cs := #[.int .i64 x127000_1, .int .i64 x127001_1]) ?_ 0 _ rfl; (with_reducible repeat (first | refine blk_drewN ?_ _ | refine blk_drew ?_ | refine blk_alloc ?_ _)); exact BK126.out) Try.underlying24 rfl (by kernel_rfl) (.tmp .nil)))) rfl ?_
                                  exact ⟨_, by first | rfl | (simp [errW_none, errW_some] <;> rfl) | (simp [*, errW_none, errW_some] <;> rfl), by first | exact Kd.R_nil _ _ _ _ _ | exact Kd.N_nil _ _ _ _ _ | exact Kd.V_nil _ _ _ _ _ | exact Kd.Q_nil _ _ _ _ _ | exact Kd.S_nil _ _ _ _ _, by repeat (first | (with_reducible first | exact HB.out | apply below_alloc | apply pw_below_drewN | apply below_drew1 | refine below_set ?_ GE126.out) | exact HB.out)⟩
                                · rw [if_neg c37] at H
                                  have c37b0 : decide (31 < (sw_.size : Int)) = false := decide_eq_false c37
                                  have c37b1 : decide (31 < sw_.size) = false := decide_eq_false (by omega)
                                  clear c37
                                  replace H := Option.bind_eq_some_iff.mp H
                                  obtain ⟨t138, A410, H⟩ := H
                                  replace H : ((text_Numeral.f kj14 sw_).bind fun bt140 => (if bt140.2 = 0 then (if x5_1.length < 2932031007402 then (if x6_1.length < 17592186044416 then (token_Scan.l0 kj14 a0 (x5_1 ++ [(⟨2, t138, bt140.1, (⟨0, 0⟩ : S24)⟩ : S30)]) (x6_1 ++ [x7_1]) x8_14) else (none)) else (none)) else (if bt140.2 = 21 then ((token_place.f kj14 a0 x7_1).bind fun bt148 => (some (([] : List (S30)), bt148.1, bt148.2, 21))) else (if x5_1.length < 2932031007402 then (if x6_1.length < 17592186044416 then (token_Scan.l0 kj14 a0 (x5_1 ++ [(⟨1, t138, 0, (⟨0, 0⟩ : S24)⟩ : S30)]) (x6_1 ++ [x7_1]) x8_14) else (none)) else (none))))) = some (r1, r2, r3, r4) := H
                                  have A41 := Aside0.mk A410
                                  clear A410
                                  replace H := Option.bind_eq_some_iff.mp H
                                  obtain ⟨⟨t140, t141⟩, A420, H⟩ := H
                                  replace H : (if t141 = 0 then (if x5_1.length < 2932031007402 then (if x6_1.length < 17592186044416 then (token_Scan.l0 kj14 a0 (x5_1 ++ [(⟨2, t138, t140, (⟨0, 0⟩ : S24)⟩ : S30)]) (x6_1 ++ [x7_1]) x8_14) else (none)) else (none)) else (if t141 = 21 then ((token_place.f kj14 a0 x7_1).bind fun bt148 => (some (([] : List (S30)), bt148.1, bt148.2, 21))) else (if x5_1.length < 2932031007402 then (if x6_1.length < 17592186044416 then (token_Scan.l0 kj14 a0 (x5_1 ++ [(⟨1, t138, 0, (⟨0, 0⟩ : S24)⟩ : S30)]) (x6_1 ++ [x7_1]) x8_14) else (none)) else (none)))) = some (r1, r2, r3, r4) := H
                                  have A42 := Aside0.mk A420
                                  clear A420
                                  by_cases c43 : t141 = 0
                                  · rw [if_pos c43] at H
                                    have c43b0 : (t141 == 0) = true := beq_iff_eq.mpr c43
                                    have c43b1 : (t141 != 0) = false := bne_eq_false_iff_eq.mpr c43
                                    clear c43
                                    by_cases c44 : x5_1.length < 2932031007402
                                    · rw [if_pos c44] at H
                                      have LMc44 := Aside0.mk c44
                                      clear c44
                                      obtain ⟨y142, hy142⟩ : ∃ y_ : List (S30), y_ = (x5_1 ++ [(⟨2, t138, t140, (⟨0, 0⟩ : S24)⟩ : S30)]) := ⟨_, rfl⟩
                                      replace H : (if x6_1.length < 17592186044416 then (token_Scan.l0 kj14 a0 y142 (x6_1 ++ [x7_1]) x8_14) else (none)) = some (r1, r2, r3, r4) := by first | (rw [hy142]; with_reducible exact H) | (have H2_ := (Option.bind_some _ _).symm.trans H; rw [hy142]; with_reducible exact H2_) | (have H2_ := (Option.bind_some _ _).symm.trans H; with_reducible exact H2_) | with_reducible exact H | (rw [hy142]; exact H) | exact H
                                      have Ny142 := Aside0.mk hy142
                                      clear hy142
                                      by_cases c45 : x6_1.length < 17592186044416
                                      · rw [if_pos c45] at H
                                        have LMc45 := Aside0.mk c45
                                        clear c45
                                        obtain ⟨y145, hy145⟩ : ∃ y_ : List Int, y_ = (x6_1 ++ [x7_1]) := ⟨_, rfl⟩
                                        replace H : (token_Scan.l0 kj14 a0 y142 y145 x8_14) = some (r1, r2, r3, r4) := by first | (rw [hy145]; with_reducible exact H) | (have H2_ := (Option.bind_some _ _).symm.trans H; rw [hy145]; with_reducible exact H2_) | (have H2_ := (Option.bind_some _ _).symm.trans H; with_reducible exact H2_) | with_reducible exact H | (rw [hy145]; exact H) | exact H
                                        have Ny145 := Aside0.mk hy145
                                        clear hy145
                                        have H' := Aside0.mk H
                                        clear H
                                        go_wp2_with (first | ((with_reducible refine gate_callee (f := 23) rfl ?_); refine goesL_ (some 93) rfl rfl Try.func23 (by kernel_rfl) rfl #[.string sw_] rfl (by (try simp only [List.map_toArray, List.map_cons, List.map_nil]); first | done | rfl | (simp only [List.length_drop, List.length_take]; rfl)) ?_; (with_reducible refine (strings_Clone.calls sw_ t138 _ A41.out).mono ?_); rintro e w46 ⟨rfl, hb⟩; refine ⟨_, rfl, ?_⟩; have n0_ := Aside0.mk (Kd.R_below (by (with_reducible repeat (first | apply Kd.R_alloc | apply Kd.R_drewN | apply Kd.R_drew)); exact HO_5.out) hb); have n1_ := Aside0.mk (Kd.R_below (by (with_reducible repeat (first | apply Kd.R_alloc | apply Kd.R_drewN | apply Kd.R_drew)); exact HO_6.out) hb); have n2_ := Aside0.mk (blk_below (g := gb126) (o := .cells #[.int .i64 x127000_1, .int .i64 x127001_1] 24 (0, 0)) (by (with_reducible repeat (first | refine blk_drewN ?_ _ | refine blk_drew ?_ | refine blk_alloc ?_ _)); exact BK126.out) hb); have n3_ := Aside0.mk (below_step (by repeat (first | (with_reducible first | exact HB.out | apply below_alloc | apply pw_below_drewN | apply below_drew1 | refine below_set ?_ GE126.out) | exact HB.out)) hb); clear HO_5; clear HO_6; clear BK126; clear HB; have HO_5 := n0_; have HO_6 := n1_; have BK126 := n2_; have HB := n3_; clear n0_ n1_ n2_ n3_; (try clear hb); (try clear hb2); (try clear hk); (try clear hi)) | ((with_reducible refine gate_dst (N := 12) rfl ?_); refine box_event ?hg (N := 12) ?hd (cs := #[.int .i64 0, .string (⟨#[]⟩ : ByteArray), .int .u16 0, .int .i64 0, .int .i64 0]) (t := 30) ?hr ?_; (case hd => rfl); (case hg => rfl); (case hr => first | (go_simp; done) | (go_simp; rfl)); intro gb139 hg w47 hbox hb; have n0_ := Aside0.mk (Kd.R_below (Kd.R_elderB (by (with_reducible repeat (first | apply Kd.R_alloc | apply Kd.R_drewN | apply Kd.R_drew)); exact HO_5.out) gb139 (Nat.le_of_eq hg.symm)) hb); have n1_ := Aside0.mk (Kd.R_below (by (with_reducible repeat (first | apply Kd.R_alloc | apply Kd.R_drewN | apply Kd.R_drew)); exact HO_6.out) hb); have n2_ := Aside0.mk (blk_below (g := gb126) (o := .cells #[.int .i64 x127000_1, .int .i64 x127001_1] 24 (0, 0)) (by (with_reducible repeat (first | refine blk_drewN ?_ _ | refine blk_drew ?_ | refine blk_alloc ?_ _)); exact BK126.out) hb); have n3_ := Aside0.mk (below_step (by repeat (first | (with_reducible first | exact HB.out | apply below_alloc | apply pw_below_drewN | apply below_drew1 | refine below_set ?_ GE126.out) | exact HB.out)) hb); have n4_ := Aside0.mk (hbox); have n5_ := Aside0.mk ((by rw [hg]; exact (below_size (by repeat (first | (with_reducible first | exact HB.out | apply below_alloc | apply pw_below_drewN | apply below_drew1 | refine below_set ?_ GE126.out) | exact HB.out))) : w.heap.size ≤ gb139)); have n6_ := Aside0.mk ((by rw [hg]; exact (below_size (by repeat (first | (with_reducible first | exact HB.out | apply below_alloc | apply pw_below_drewN | apply below_drew1 | refine below_set ?_ GE126.out) | exact HB.out))) : w.heap.size ≤ gb139)); have n7_ := Aside0.mk ((by rw [hg]; exact Nat.ne_of_lt (blk_lt (g := gb126) (o := .cells #[.int .i64 x127000_1, .int .i64 x127001_1] 24 (0, 0)) (by (with_reducible repeat (first | refine blk_drewN ?_ _ | refine blk_drew ?_ | refine blk_alloc ?_ _)); exact BK126.out)) : gb126 ≠ gb139)); have n8_ := Aside0.mk ((by rw [hg]; exact Nat.ne_of_gt (blk_lt (g := gb126) (o := .cells #[.int .i64 x127000_1, .int .i64 x127001_1] 24 (0, 0)) (by (with_reducible repeat (first | refine blk_drewN ?_ _ | refine blk_drew ?_ | refine blk_alloc ?_ _)); exact BK126.out)) : gb139 ≠ gb126)); clear HO_5; clear HO_6; clear BK126; clear HB; have HO_5 := n0_; have HO_6 := n1_; have BK126 := n2_; have HB := n3_; have BK139 := n4_; have GW139 := n5_; have GE139 := n6_; have NB126_139 := n7_; have NB139_126 := n8_; clear n0_ n1_ n2_ n3_ n4_ n5_ n6_ n7_ n8_; clear hb hbox hg; have hnb48 := NB139_126.out; have hnc48 := NB126_139.out; have hcz49_0 : w47.cell? ⟨gb139, 0, none⟩ = some (.int .i64 0) := (blk_cell BK139.out 0).trans rfl; have hcz49_1 : w47.cell? ⟨gb139, 1, none⟩ = some (.string (⟨#[]⟩ : ByteArray)) := (blk_cell BK139.out 1).trans rfl; have hcz49_2 : w47.cell? ⟨gb139, 2, none⟩ = some (.int .u16 0) := (blk_cell BK139.out 2).trans rfl; have hcz49_3 : w47.cell? ⟨gb139, 3, none⟩ = some (.int .i64 0) := (blk_cell BK139.out 3).trans rfl; have hcz49_4 : w47.cell? ⟨gb139, 4, none⟩ = some (.int .i64 0) := (blk_cell BK139.out 4).trans rfl; have hfz49_0 := blk_frozen BK139.out 0; have hfz49_1 := blk_frozen BK139.out 1; have hfz49_2 := blk_frozen BK139.out 2; have hfz49_3 := blk_frozen BK139.out 3; have hfz49_4 := blk_frozen BK139.out 4) | ((with_reducible refine gate_callee (f := 24) rfl ?_); refine goesL_ (some 97) rfl rfl Try.func24 (by kernel_rfl) rfl #[.string sw_] rfl (by (try simp only [List.map_toArray, List.map_cons, List.map_nil]); first | done | rfl | (simp only [List.length_drop, List.length_take]; rfl)) ?_; (with_reducible refine (text_Numeral.calls kj14 sw_ t140 t141 _ A42.out).mono ?_); rintro e w50 ⟨rfl, hb⟩; refine ⟨_, rfl, ?_⟩; have n0_ := Aside0.mk (Kd.R_below (by (with_reducible repeat (first | apply Kd.R_alloc | apply Kd.R_drewN | apply Kd.R_drew)); exact (Kd.R_mono (Kd.R_far (p := ⟨gb139, 4, none⟩) (Kd.R_far (p := ⟨gb139, 3, none⟩) (Kd.R_far (p := ⟨gb139, 2, none⟩) (Kd.R_far (p := ⟨gb139, 1, none⟩) (Kd.R_far (p := ⟨gb139, 0, none⟩) (Kd.R_mono HO_5.out (fun k_ hk => (⟨hk, hk.2⟩ : _ ∧ k_ ≠ gb139))) (fun _ hk => hk.2) (.int .i64 1)) (fun _ hk => hk.2) (.string t138)) (fun _ hk => hk.2) (.int .u16 0)) (fun _ hk => hk.2) (.int .i64 0)) (fun _ hk => hk.2) (.int .i64 0)) (fun _ h_ => h_.1))) hb); have n1_ := Aside0.mk (Kd.R_below (by (with_reducible repeat (first | apply Kd.R_alloc | apply Kd.R_drewN | apply Kd.R_drew)); exact (Kd.R_mono (Kd.R_far (p := ⟨gb139, 4, none⟩) (Kd.R_far (p := ⟨gb139, 3, none⟩) (Kd.R_far (p := ⟨gb139, 2, none⟩) (Kd.R_far (p := ⟨gb139, 1, none⟩) (Kd.R_far (p := ⟨gb139, 0, none⟩) (Kd.R_types HO_6.out BK139.out (by decide)) (fun _ hk => hk.2) (.int .i64 1)) (fun _ hk => hk.2) (.string t138)) (fun _ hk => hk.2) (.int .u16 0)) (fun _ hk => hk.2) (.int .i64 0)) (fun _ hk => hk.2) (.int .i64 0)) (fun _ h_ => h_.1))) hb); have n2_ := Aside0.mk (blk_below (g := gb126) (o := .cells #[.int .i64 x127000_1, .int .i64 x127001_1] 24 (0, 0)) (by (with_reducible repeat (first | refine blk_drewN ?_ _ | refine blk_drew ?_ | refine blk_alloc ?_ _)); refine blk_far ?_ NB126_139.out _; (with_reducible repeat (first | refine blk_drewN ?_ _ | refine blk_drew ?_ | refine blk_alloc ?_ _)); refine blk_far ?_ NB126_139.out _; (with_reducible repeat (first | refine blk_drewN ?_ _ | refine blk_drew ?_ | refine blk_alloc ?_ _)); refine blk_far ?_ NB126_139.out _; (with_reducible repeat (first | refine blk_drewN ?_ _ | refine blk_drew ?_ | refine blk_alloc ?_ _)); refine blk_far ?_ NB126_139.out _; (with_reducible repeat (first | refine blk_drewN ?_ _ | refine blk_drew ?_ | refine blk_alloc ?_ _)); refine blk_far ?_ NB126_139.out _; (with_reducible repeat (first | refine blk_drewN ?_ _ | refine blk_drew ?_ | refine blk_alloc ?_ _)); exact BK126.out) hb); have n3_ := Aside0.mk (blk_below (g := gb139) (o := .cells #[.int .i64 1, .string t138, .int .u16 0, .int .i64 0, .int .i64 0] 30 (0, 0)) (by (with_reducible repeat (first | refine blk_drewN ?_ _ | refine blk_drew ?_ | refine blk_alloc ?_ _)); refine blk_put (cs := #[.int .i64 1, .string t138, .int .u16 0, .int .i64 0, .int .i64 0]) ?_ 4 _ rfl; (with_reducible repeat (first | refine blk_drewN ?_ _ | refine blk_drew ?_ | refine blk_alloc ?_ _)); refine blk_put (cs := #[.int .i64 1, .string t138, .int .u16 0, .int .i64 0, .int .i64 0]) ?_ 3 _ rfl; (with_reducible repeat (first | refine blk_drewN ?_ _ | refine blk_drew ?_ | refine blk_alloc ?_ _)); refine blk_put (cs := #[.int .i64 1, .string t138, .int .u16 0, .int .i64 0, .int .i64 0]) ?_ 2 _ rfl; (with_reducible repeat (first | refine blk_drewN ?_ _ | refine blk_drew ?_ | refine blk_alloc ?_ _)); refine blk_put (cs := #[.int .i64 1, .string (⟨#[]⟩ : ByteArray), .int .u16 0, .int .i64 0, .int .i64 0]) ?_ 1 _ rfl; (with_reducible repeat (first | refine blk_drewN ?_ _ | refine blk_drew ?_ | refine blk_alloc ?_ _)); refine blk_put (cs := #[.int .i64 0, .string (⟨#[]⟩ : ByteArray), .int .u16 0, .int .i64 0, .int .i64 0]) ?_ 0 _ rfl; (with_reducible repeat (first | refine blk_drewN ?_ _ | refine blk_drew ?_ | refine blk_alloc ?_ _)); exact BK139.out) hb); have n4_ := Aside0.mk (below_step (by repeat (first | (with_reducible first | exact HB.out | apply below_alloc | apply pw_below_drewN | apply below_drew1 | refine below_set ?_ GE126.out | refine below_set ?_ GE139.out) | exact HB.out)) hb); clear HO_5; clear HO_6; clear BK126; clear BK139; clear HB; have HO_5 := n0_; have HO_6 := n1_; have BK126 := n2_; have BK139 := n3_; have HB := n4_; clear n0_ n1_ n2_ n3_ n4_; (try clear hb); (try clear hb2); (try clear hk); (try clear hi); have hcz51_0 : w50.cell? ⟨gb139, 0, none⟩ = some (.int .i64 1) := (blk_cell BK139.out 0).trans rfl; have hcz51_1 : w50.cell? ⟨gb139, 1, none⟩ = some (.string t138) := (blk_cell BK139.out 1).trans rfl; have hcz51_2 : w50.cell? ⟨gb139, 2, none⟩ = some (.int .u16 0) := (blk_cell BK139.out 2).trans rfl; have hcz51_3 : w50.cell? ⟨gb139, 3, none⟩ = some (.int .i64 0) := (blk_cell BK139.out 3).trans rfl; have hcz51_4 : w50.cell? ⟨gb139, 4, none⟩ = some (.int .i64 0) := (blk_cell BK139.out 4).trans rfl; have hfz51_0 := blk_frozen BK139.out 0; have hfz51_1 := blk_frozen BK139.out 1; have hfz51_2 := blk_frozen BK139.out 2; have hfz51_3 := blk_frozen BK139.out 3; have hfz51_4 := blk_frozen BK139.out 4) | ((with_reducible refine gate_builtin (b := .append) (xs := #[.tmp 111, .tmp 113]) rfl ?_); at_builtin; refine Kd.R_append k30 (w0 := w) w.heap.size rfl (.tmp 111) (.tmp 113) 22 30 (.agg #[(.int .i64 0), (.string ⟨#[]⟩), (.int .u16 0), (.int .i64 0), (.int .i64 0)]) 48 rfl Try.underlying22 info30 rfl (by decide) (by omega) u5 x5_1 (⟨2, t138, t140, (⟨0, 0⟩ : S24)⟩ : S30) [.int .i64 2, .string t138, .int .u16 t140, .int .i64 0, .int .i64 0] (fun k_ => k_ ≠ gb139) (fun _ => False) rfl (by first | (go_simp; done) | (go_simp; rfl)) ?aP (fun _ hk => hk.elim) ?aF ?aO ?aB ?aS ?aL ?_; (case aP => exact k30_mkM _ _ _ (⟨2, t138, t140, (⟨0, 0⟩ : S24)⟩ : S30)); (case aB => exact (by repeat (first | (with_reducible first | exact HB.out | apply below_alloc | apply pw_below_drewN | apply below_drew1 | refine below_set ?_ GE126.out | refine below_set ?_ GE139.out) | exact HB.out))); (case aF => exact (fun k_ hk => Kd.freshB (g := gb139) (o := .cells #[.int .i64 2, .string t138, .int .u16 t140, .int .i64 0, .int .i64 0] 30 (0, 0)) (by (with_reducible repeat (first | refine blk_drewN ?_ _ | refine blk_drew ?_ | refine blk_alloc ?_ _)); refine blk_put (cs := #[.int .i64 2, .string t138, .int .u16 0, .int .i64 0, .int .i64 0]) ?_ 2 _ rfl; (with_reducible repeat (first | refine blk_drewN ?_ _ | refine blk_drew ?_ | refine blk_alloc ?_ _)); refine blk_put (cs := #[.int .i64 1, .string t138, .int .u16 0, .int .i64 0, .int .i64 0]) ?_ 0 _ rfl; (with_reducible repeat (first | refine blk_drewN ?_ _ | refine blk_drew ?_ | refine blk_alloc ?_ _)); exact BK139.out) k_ hk)); (case aO => exact (by (with_reducible repeat (first | apply Kd.R_alloc | apply Kd.R_drewN | apply Kd.R_drew)); exact Kd.R_mono (Kd.R_far (p := ⟨gb139, 2, none⟩) (Kd.R_far (p := ⟨gb139, 0, none⟩) (Kd.R_mono HO_5.out (fun k_ hk => (⟨hk, hk.2⟩ : _ ∧ k_ ≠ gb139))) (fun _ hk => hk.2) (.int .i64 2)) (fun _ hk => hk.2) (.int .u16 t140)) (fun _ hk => hk.1.2))); (case aS => exact (below_size (by repeat (first | (with_reducible first | exact HB.out | apply below_alloc | apply pw_below_drewN | apply below_drew1 | refine below_set ?_ GE126.out | refine below_set ?_ GE139.out) | exact HB.out)))); (case aL => have := LMc44.out; omega); intro v143 w52 ho hb hg hat; rw [← Ny142.out] at ho; have n0_ := Aside0.mk (Kd.R_over' (by (with_reducible repeat (first | apply Kd.R_alloc | apply Kd.R_drewN | apply Kd.R_drew)); exact (Kd.R_mono (Kd.R_far (p := ⟨gb139, 2, none⟩) (Kd.R_far (p := ⟨gb139, 0, none⟩) (Kd.R_types HO_6.out BK139.out (by decide)) (fun _ hk => hk.2) (.int .i64 2)) (fun _ hk => hk.2) (.int .u16 t140)) (fun _ h_ => h_.1))) (Kd.R_typed (by (with_reducible repeat (first | apply Kd.R_alloc | apply Kd.R_drewN | apply Kd.R_drew)); exact (Kd.R_mono (Kd.R_far (p := ⟨gb139, 2, none⟩) (Kd.R_far (p := ⟨gb139, 0, none⟩) (Kd.R_mono HO_5.out (fun k_ hk => (⟨hk, hk.2⟩ : _ ∧ k_ ≠ gb139))) (fun _ hk => hk.2) (.int .i64 2)) (fun _ hk => hk.2) (.int .u16 t140)) (fun _ h_ => h_.1)))) (by decide) hg); have n1_ := Aside0.mk (blk_grown (g := gb126) (o := .cells #[.int .i64 x127000_1, .int .i64 x127001_1] 24 (0, 0)) (by (with_reducible repeat (first | refine blk_drewN ?_ _ | refine blk_drew ?_ | refine blk_alloc ?_ _)); refine blk_far ?_ NB126_139.out _; (with_reducible repeat (first | refine blk_drewN ?_ _ | refine blk_drew ?_ | refine blk_alloc ?_ _)); refine blk_far ?_ NB126_139.out _; (with_reducible repeat (first | refine blk_drewN ?_ _ | refine blk_drew ?_ | refine blk_alloc ?_ _)); exact BK126.out) hg (Kd.R_ne HO_5.out BK126.out (by decide))); have n2_ := Aside0.mk (blk_grown (g := gb139) (o := .cells #[.int .i64 2, .string t138, .int .u16 t140, .int .i64 0, .int .i64 0] 30 (0, 0)) (by (with_reducible repeat (first | refine blk_drewN ?_ _ | refine blk_drew ?_ | refine blk_alloc ?_ _)); refine blk_put (cs := #[.int .i64 2, .string t138, .int .u16 0, .int .i64 0, .int .i64 0]) ?_ 2 _ rfl; (with_reducible repeat (first | refine blk_drewN ?_ _ | refine blk_drew ?_ | refine blk_alloc ?_ _)); refine blk_put (cs := #[.int .i64 1, .string t138, .int .u16 0, .int .i64 0, .int .i64 0]) ?_ 0 _ rfl; (with_reducible repeat (first | refine blk_drewN ?_ _ | refine blk_drew ?_ | refine blk_alloc ?_ _)); exact BK139.out) hg (Kd.R_away HO_5.out (fun _ hk => hk.2))); have n3_ := Aside0.mk (hb); have n4_ := Aside0.mk (ho); clear HO_6; clear BK126; clear BK139; clear HB; clear HO_5; have HO_6 := n0_; have BK126 := n1_; have BK139 := n2_; have HB := n3_; have HO144 := n4_; clear n0_ n1_ n2_ n3_ n4_; clear ho hb hg hat) | ((with_reducible refine gate_builtin (b := .append) (xs := #[.tmp 115, .tmp 117]) rfl ?_); at_builtin; refine Kd.R_append (Kd.int .i64) (w0 := w) w.heap.size rfl (.tmp 115) (.tmp 117) 47 3 (.int .i64 0) 8 rfl Try.underlying47 info3 rfl (by decide) (by omega) u6 x6_1 x7_1 [.int .i64 x7_1] (fun _ => True) (fun _ => False) rfl rfl ?aP (fun _ hk => hk.elim) ?aF ?aO ?aB ?aS ?aL ?_; (case aP => exact rfl); (case aB => exact (by repeat (first | (with_reducible first | exact HB.out | apply below_alloc | apply pw_below_drewN | apply below_drew1 | refine below_set ?_ GE126.out | refine below_set ?_ GE139.out) | exact HB.out))); (case aF => exact (fun _ _ => trivial)); (case aO => exact (by (with_reducible repeat (first | apply Kd.R_alloc | apply Kd.R_drewN | apply Kd.R_drew)); exact HO_6.out)); (case aS => exact (below_size (by repeat (first | (with_reducible first | exact HB.out | apply below_alloc | apply pw_below_drewN | apply below_drew1 | refine below_set ?_ GE126.out | refine below_set ?_ GE139.out) | exact HB.out)))); (case aL => have := LMc45.out; omega); intro v146 w53 ho hb hg hat; rw [← Ny145.out] at ho; have n0_ := Aside0.mk (blk_grown (g := gb126) (o := .cells #[.int .i64 x127000_1, .int .i64 x127001_1] 24 (0, 0)) (by (with_reducible repeat (first | refine blk_drewN ?_ _ | refine blk_drew ?_ | refine blk_alloc ?_ _)); exact BK126.out) hg (Kd.R_ne HO_6.out BK126.out (by decide))); have n1_ := Aside0.mk (blk_grown (g := gb139) (o := .cells #[.int .i64 2, .string t138, .int .u16 t140, .int .i64 0, .int .i64 0] 30 (0, 0)) (by (with_reducible repeat (first | refine blk_drewN ?_ _ | refine blk_drew ?_ | refine blk_alloc ?_ _)); exact BK139.out) hg (Kd.R_ne HO_6.out BK139.out (by decide))); have n2_ := Aside0.mk (Kd.R_over' (by (with_reducible repeat (first | apply Kd.R_alloc | apply Kd.R_drewN | apply Kd.R_drew)); exact HO144.out) (Kd.R_typed (by (with_reducible repeat (first | apply Kd.R_alloc | apply Kd.R_drewN | apply Kd.R_drew)); exact HO_6.out)) (by decide) hg); have n3_ := Aside0.mk (hb); have n4_ := Aside0.mk (ho); clear BK126; clear BK139; clear HO144; clear HB; clear HO_6; have BK126 := n0_; have BK139 := n1_; have HO144 := n2_; have HB := n3_; have HO147 := n4_; clear n0_ n1_ n2_ n3_ n4_; clear ho hb hg hat))
                                        go_roundg kj14
                                        case measure => have := HK1.out; have := HJ14.out; omega
                                        case rel => exact ⟨(y142), (y145), (x8_14), (x127000_1), (x127001_1), (by first | rfl | (simp; done) | (simp [*]; done) | (simp [isEmpty_ne]; done)), H', ⟨by have := HK1.out; have := HJ14.out; omega⟩, ⟨by (with_reducible repeat (first | apply Kd.R_alloc | apply Kd.R_drewN | apply Kd.R_drew)); exact Kd.R_mono HO144.out (fun _ hk => trivial)⟩, ⟨by (with_reducible repeat (first | apply Kd.R_alloc | apply Kd.R_drewN | apply Kd.R_drew)); exact HO147.out⟩, ⟨by (with_reducible repeat (first | refine blk_drewN ?_ _ | refine blk_drew ?_ | refine blk_alloc ?_ _)); exact BK126.out⟩, ⟨by repeat (first | (with_reducible first | exact HB.out | apply below_alloc | apply pw_below_drewN | apply below_drew1 | refine below_set ?_ GE126.out | refine below_set ?_ GE139.out) | exact HB.out)⟩⟩
                                      · rw [if_neg c45] at H
                                        exact absurd H (by simp)
                                    · rw [if_neg c44] at H
                                      exact absurd H (by simp)
                                  · rw [if_neg c43] at H
                                    have c43b0 : (t141 == 0) = false := beq_eq_false_iff_ne.mpr c43
                                    have c43b1 : (t141 != 0) = true := bne_iff_ne.mpr c43
                                    by_cases c54 : t141 = 21
                                    · rw [if_pos c54] at H
                                      have c54b0 : (t141 == 21) = true := beq_iff_eq.mpr c54
                                      have c54b1 : (t141 != 21) = false := bne_eq_false_iff_eq.mpr c54
                                      clear c54
                                      replace H := Option.bind_eq_some_iff.mp H
                                      obtain ⟨⟨t148, t149⟩, A550, H⟩ := H
                                      replace H : (some (([] : List (S30)), t148, t149, 21)) = some (r1, r2, r3, r4) := H
                                      have A55 := Aside0.mk A550
                                      clear A550
                                      simp only [Option.some.injEq, Prod.mk.injEq] at H
                                      obtain ⟨rfl, rfl, rfl, rfl⟩ := H
                                      go_wp2_with (first | ((with_reducible refine gate_callee (f := 23) rfl ?_); refine goesL_ (some 93) rfl rfl Try.func23 (by kernel_rfl) rfl #[.string sw_] rfl (by (try simp only [List.map_toArray, List.map_cons, List.map_nil]); first | done | rfl | (simp only [List.length_drop, List.length_take]; rfl)) ?_; (with_reducible refine (strings_Clone.calls sw_ t138 _ A41.out).mono ?_); rintro e w56 ⟨rfl, hb⟩; refine ⟨_, rfl, ?_⟩; have n0_ := Aside0.mk (Kd.R_below (by (with_reducible repeat (first | apply Kd.R_alloc | apply Kd.R_drewN | apply Kd.R_drew)); exact HO_5.out) hb); have n1_ := Aside0.mk (Kd.R_below (by (with_reducible repeat (first | apply Kd.R_alloc | apply Kd.R_drewN | apply Kd.R_drew)); exact HO_6.out) hb); have n2_ := Aside0.mk (blk_below (g := gb126) (o := .cells #[.int .i64 x127000_1, .int .i64 x127001_1] 24 (0, 0)) (by (with_reducible repeat (first | refine blk_drewN ?_ _ | refine blk_drew ?_ | refine blk_alloc ?_ _)); exact BK126.out) hb); have n3_ := Aside0.mk (below_step (by repeat (first | (with_reducible first | exact HB.out | apply below_alloc | apply pw_below_drewN | apply below_drew1 | refine below_set ?_ GE126.out) | exact HB.out)) hb); clear HO_5; clear HO_6; clear BK126; clear HB; have HO_5 := n0_; have HO_6 := n1_; have BK126 := n2_; have HB := n3_; clear n0_ n1_ n2_ n3_; (try clear hb); (try clear hb2); (try clear hk); (try clear hi)) | ((with_reducible refine gate_dst (N := 12) rfl ?_); refine box_event ?hg (N := 12) ?hd (cs := #[.int .i64 0, .string (⟨#[]⟩ : ByteArray), .int .u16 0, .int .i64 0, .int .i64 0]) (t := 30) ?hr ?_; (case hd => rfl); (case hg => rfl); (case hr => first | (go_simp; done) | (go_simp; rfl)); intro gb139 hg w57 hbox hb; have n0_ := Aside0.mk (Kd.R_below (Kd.R_elderB (by (with_reducible repeat (first | apply Kd.R_alloc | apply Kd.R_drewN | apply Kd.R_drew)); exact HO_5.out) gb139 (Nat.le_of_eq hg.symm)) hb); have n1_ := Aside0.mk (Kd.R_below (by (with_reducible repeat (first | apply Kd.R_alloc | apply Kd.R_drewN | apply Kd.R_drew)); exact HO_6.out) hb); have n2_ := Aside0.mk (blk_below (g := gb126) (o := .cells #[.int .i64 x127000_1, .int .i64 x127001_1] 24 (0, 0)) (by (with_reducible repeat (first | refine blk_drewN ?_ _ | refine blk_drew ?_ | refine blk_alloc ?_ _)); exact BK126.out) hb); have n3_ := Aside0.mk (below_step (by repeat (first | (with_reducible first | exact HB.out | apply below_alloc | apply pw_below_drewN | apply below_drew1 | refine below_set ?_ GE126.out) | exact HB.out)) hb); have n4_ := Aside0.mk (hbox); have n5_ := Aside0.mk ((by rw [hg]; exact (below_size (by repeat (first | (with_reducible first | exact HB.out | apply below_alloc | apply pw_below_drewN | apply below_drew1 | refine below_set ?_ GE126.out) | exact HB.out))) : w.heap.size ≤ gb139)); have n6_ := Aside0.mk ((by rw [hg]; exact (below_size (by repeat (first | (with_reducible first | exact HB.out | apply below_alloc | apply pw_below_drewN | apply below_drew1 | refine below_set ?_ GE126.out) | exact HB.out))) : w.heap.size ≤ gb139)); have n7_ := Aside0.mk ((by rw [hg]; exact Nat.ne_of_lt (blk_lt (g := gb126) (o := .cells #[.int .i64 x127000_1, .int .i64 x127001_1] 24 (0, 0)) (by (with_reducible repeat (first | refine blk_drewN ?_ _ | refine blk_drew ?_ | refine blk_alloc ?_ _)); exact BK126.out)) : gb126 ≠ gb139)); have n8_ := Aside0.mk ((by rw [hg]; exact Nat.ne_of_gt (blk_lt (g := gb126) (o := .cells #[.int .i64 x127000_1, .int .i64 x127001_1] 24 (0, 0)) (by (with_reducible repeat (first | refine blk_drewN ?_ _ | refine blk_drew ?_ | refine blk_alloc ?_ _)); exact BK126.out)) : gb139 ≠ gb126)); clear HO_5; clear HO_6; clear BK126; clear HB; have HO_5 := n0_; have HO_6 := n1_; have BK126 := n2_; have HB := n3_; have BK139 := n4_; have GW139 := n5_; have GE139 := n6_; have NB126_139 := n7_; have NB139_126 := n8_; clear n0_ n1_ n2_ n3_ n4_ n5_ n6_ n7_ n8_; clear hb hbox hg; have hnb58 := NB139_126.out; have hnc58 := NB126_139.out; have hcz59_0 : w57.cell? ⟨gb139, 0, none⟩ = some (.int .i64 0) := (blk_cell BK139.out 0).trans rfl; have hcz59_1 : w57.cell? ⟨gb139, 1, none⟩ = some (.string (⟨#[]⟩ : ByteArray)) := (blk_cell BK139.out 1).trans rfl; have hcz59_2 : w57.cell? ⟨gb139, 2, none⟩ = some (.int .u16 0) := (blk_cell BK139.out 2).trans rfl; have hcz59_3 : w57.cell? ⟨gb139, 3, none⟩ = some (.int .i64 0) := (blk_cell BK139.out 3).trans rfl; have hcz59_4 : w57.cell? ⟨gb139, 4, none⟩ = some (.int .i64 0) := (blk_cell BK139.out 4).trans rfl; have hfz59_0 := blk_frozen BK139.out 0; have hfz59_1 := blk_frozen BK139.out 1; have hfz59_2 := blk_frozen BK139.out 2; have hfz59_3 := blk_frozen BK139.out 3; have hfz59_4 := blk_frozen BK139.out 4) | ((with_reducible refine gate_callee (f := 24) rfl ?_); refine goesL_ (some 97) rfl rfl Try.func24 (by kernel_rfl) rfl #[.string sw_] rfl (by (try simp only [List.map_toArray, List.map_cons, List.map_nil]); first | done | rfl | (simp only [List.length_drop, List.length_take]; rfl)) ?_; (with_reducible refine (text_Numeral.calls kj14 sw_ t140 t141 _ A42.out).mono ?_); rintro e w60 ⟨rfl, hb⟩; refine ⟨_, rfl, ?_⟩; have n0_ := Aside0.mk (Kd.R_below (by (with_reducible repeat (first | apply Kd.R_alloc | apply Kd.R_drewN | apply Kd.R_drew)); exact (Kd.R_mono (Kd.R_far (p := ⟨gb139, 4, none⟩) (Kd.R_far (p := ⟨gb139, 3, none⟩) (Kd.R_far (p := ⟨gb139, 2, none⟩) (Kd.R_far (p := ⟨gb139, 1, none⟩) (Kd.R_far (p := ⟨gb139, 0, none⟩) (Kd.R_mono HO_5.out (fun k_ hk => (⟨hk, hk.2⟩ : _ ∧ k_ ≠ gb139))) (fun _ hk => hk.2) (.int .i64 1)) (fun _ hk => hk.2) (.string t138)) (fun _ hk => hk.2) (.int .u16 0)) (fun _ hk => hk.2) (.int .i64 0)) (fun _ hk => hk.2) (.int .i64 0)) (fun _ h_ => h_.1))) hb); have n1_ := Aside0.mk (Kd.R_below (by (with_reducible repeat (first | apply Kd.R_alloc | apply Kd.R_drewN | apply Kd.R_drew)); exact (Kd.R_mono (Kd.R_far (p := ⟨gb139, 4, none⟩) (Kd.R_far (p := ⟨gb139, 3, none⟩) (Kd.R_far (p := ⟨gb139, 2, none⟩) (Kd.R_far (p := ⟨gb139, 1, none⟩) (Kd.R_far (p := ⟨gb139, 0, none⟩) (Kd.R_types HO_6.out BK139.out (by decide)) (fun _ hk => hk.2) (.int .i64 1)) (fun _ hk => hk.2) (.string t138)) (fun _ hk => hk.2) (.int .u16 0)) (fun _ hk => hk.2) (.int .i64 0)) (fun _ hk => hk.2) (.int .i64 0)) (fun _ h_ => h_.1))) hb); have n2_ := Aside0.mk (blk_below (g := gb126) (o := .cells #[.int .i64 x127000_1, .int .i64 x127001_1] 24 (0, 0)) (by (with_reducible repeat (first | refine blk_drewN ?_ _ | refine blk_drew ?_ | refine blk_alloc ?_ _)); refine blk_far ?_ NB126_139.out _; (with_reducible repeat (first | refine blk_drewN ?_ _ | refine blk_drew ?_ | refine blk_alloc ?_ _)); refine blk_far ?_ NB126_139.out _; (with_reducible repeat (first | refine blk_drewN ?_ _ | refine blk_drew ?_ | refine blk_alloc ?_ _)); refine blk_far ?_ NB126_139.out _; (with_reducible repeat (first | refine blk_drewN ?_ _ | refine blk_drew ?_ | refine blk_alloc ?_ _)); refine blk_far ?_ NB126_139.out _; (with_reducible repeat (first | refine blk_drewN ?_ _ | refine blk_drew ?_ | refine blk_alloc ?_ _)); refine blk_far ?_ NB126_139.out _; (with_reducible repeat (first | refine blk_drewN ?_ _ | refine blk_drew ?_ | refine blk_alloc ?_ _)); exact BK126.out) hb); have n3_ := Aside0.mk (blk_below (g := gb139) (o := .cells #[.int .i64 1, .string t138, .int .u16 0, .int .i64 0, .int .i64 0] 30 (0, 0)) (by (with_reducible repeat (first | refine blk_drewN ?_ _ | refine blk_drew ?_ | refine blk_alloc ?_ _)); refine blk_put (cs := #[.int .i64 1, .string t138, .int .u16 0, .int .i64 0, .int .i64 0]) ?_ 4 _ rfl; (with_reducible repeat (first | refine blk_drewN ?_ _ | refine blk_drew ?_ | refine blk_alloc ?_ _)); refine blk_put (cs := #[.int .i64 1, .string t138, .int .u16 0, .int .i64 0, .int .i64 0]) ?_ 3 _ rfl; (with_reducible repeat (first | refine blk_drewN ?_ _ | refine blk_drew ?_ | refine blk_alloc ?_ _)); refine blk_put (cs := #[.int .i64 1, .string t138, .int .u16 0, .int .i64 0, .int .i64 0]) ?_ 2 _ rfl; (with_reducible repeat (first | refine blk_drewN ?_ _ | refine blk_drew ?_ | refine blk_alloc ?_ _)); refine blk_put (cs := #[.int .i64 1, .string (⟨#[]⟩ : ByteArray), .int .u16 0, .int .i64 0, .int .i64 0]) ?_ 1 _ rfl; (with_reducible repeat (first | refine blk_drewN ?_ _ | refine blk_drew ?_ | refine blk_alloc ?_ _)); refine blk_put (cs := #[.int .i64 0, .string (⟨#[]⟩ : ByteArray), .int .u16 0, .int .i64 0, .int .i64 0]) ?_ 0 _ rfl; (with_reducible repeat (first | refine blk_drewN ?_ _ | refine blk_drew ?_ | refine blk_alloc ?_ _)); exact BK139.out) hb); have n4_ := Aside0.mk (below_step (by repeat (first | (with_reducible first | exact HB.out | apply below_alloc | apply pw_below_drewN | apply below_drew1 | refine below_set ?_ GE126.out | refine below_set ?_ GE139.out) | exact HB.out)) hb); clear HO_5; clear HO_6; clear BK126; clear BK139; clear HB; have HO_5 := n0_; have HO_6 := n1_; have BK126 := n2_; have BK139 := n3_; have HB := n4_; clear n0_ n1_ n2_ n3_ n4_; (try clear hb); (try clear hb2); (try clear hk); (try clear hi)) | ((with_reducible refine gate_callee (f := 21) rfl ?_); refine goesL_ (some 110) rfl rfl Try.func21 (by kernel_rfl) rfl #[.string a0, .int .i64 x7_1] rfl (by (try simp only [List.map_toArray, List.map_cons, List.map_nil]); first | done | rfl | (simp only [List.length_drop, List.length_take]; rfl)) ?_; (with_reducible refine (token_place.calls kj14 a0 x7_1 t148 t149 _ A55.out).mono ?_); rintro e w61 ⟨rfl, hb⟩; refine ⟨_, rfl, ?_⟩; have n0_ := Aside0.mk (Kd.R_below (by (with_reducible repeat (first | apply Kd.R_alloc | apply Kd.R_drewN | apply Kd.R_drew)); exact HO_5.out) hb); have n1_ := Aside0.mk (Kd.R_below (by (with_reducible repeat (first | apply Kd.R_alloc | apply Kd.R_drewN | apply Kd.R_drew)); exact HO_6.out) hb); have n2_ := Aside0.mk (blk_below (g := gb126) (o := .cells #[.int .i64 x127000_1, .int .i64 x127001_1] 24 (0, 0)) (by (with_reducible repeat (first | refine blk_drewN ?_ _ | refine blk_drew ?_ | refine blk_alloc ?_ _)); exact BK126.out) hb); have n3_ := Aside0.mk (blk_below (g := gb139) (o := .cells #[.int .i64 1, .string t138, .int .u16 0, .int .i64 0, .int .i64 0] 30 (0, 0)) (by (with_reducible repeat (first | refine blk_drewN ?_ _ | refine blk_drew ?_ | refine blk_alloc ?_ _)); exact BK139.out) hb); have n4_ := Aside0.mk (below_step (by repeat (first | (with_reducible first | exact HB.out | apply below_alloc | apply pw_below_drewN | apply below_drew1 | refine below_set ?_ GE126.out | refine below_set ?_ GE139.out) | exact HB.out)) hb); clear HO_5; clear HO_6; clear BK126; clear BK139; clear HB; have HO_5 := n0_; have HO_6 := n1_; have BK126 := n2_; have BK139 := n3_; have HB := n4_; clear n0_ n1_ n2_ n3_ n4_; (try clear hb); (try clear hb2); (try clear hk); (try clear hi); have hcz62_0 : w61.cell? ⟨gb126, 0, none⟩ = some (.int .i64 x127000_1) := (blk_cell BK126.out 0).trans rfl; have hcz62_1 : w61.cell? ⟨gb126, 1, none⟩ = some (.int .i64 x127001_1) := (blk_cell BK126.out 1).trans rfl; have hfz62_0 := blk_frozen BK126.out 0; have hfz62_1 := blk_frozen BK126.out 1))
                                      (try dsimp only [Exit.noGoto])
                                      refine bodyPost_ret (results_list (rs := [.tmp 2, .cell 3 24, .tmp 4]) rfl (by simp) (.tmp (.cell gb126 24 #[.int .i64 t148, .int .i64 t149] (0, 0) _ rfl (by (with_reducible repeat (first | refine blk_drewN ?_ _ | refine blk_drew ?_ | refine blk_alloc ?_ _)); refine blk_put (cs := #[.int .i64 t148, .int .i64 x127001_1]) ?_ 1 _ rfl; (with_reducible repeat (first | refine blk_drewN ?_ _ | refine blk_drew ?_ | refine blk_alloc ?_ _)); refine blk_put (cs := #[.int .i64 x127000_1, .int .i64 x127001_1]) ?_ 0 _ rfl; (with_reducible repeat (first | refine blk_drewN ?_ _ | refine blk_drew ?_ | refine blk_alloc ?_ _)); exact BK126.out) Try.underlying24 rfl (by kernel_rfl) (.tmp .nil)))) rfl ?_
                                      exact ⟨_, by first | rfl | (simp [errW_none, errW_some] <;> rfl) | (simp [*, errW_none, errW_some] <;> rfl), by first | exact Kd.R_nil _ _ _ _ _ | exact Kd.N_nil _ _ _ _ _ | exact Kd.V_nil _ _ _ _ _ | exact Kd.Q_nil _ _ _ _ _ | exact Kd.S_nil _ _ _ _ _, by repeat (first | (with_reducible first | exact HB.out | apply below_alloc | apply pw_below_drewN | apply below_drew1 | refine below_set ?_ GE126.out | refine below_set ?_ GE139.out) | exact HB.out)⟩
                                    · rw [if_neg c54] at H
                                      have c54b0 : (t141 == 21) = false := beq_eq_false_iff_ne.mpr c54
                                      have c54b1 : (t141 != 21) = true := bne_iff_ne.mpr c54
                                      by_cases c63 : x5_1.length < 2932031007402
                                      · rw [if_pos c63] at H
                                        have LMc63 := Aside0.mk c63
                                        clear c63
                                        obtain ⟨y150, hy150⟩ : ∃ y_ : List (S30), y_ = (x5_1 ++ [(⟨1, t138, 0, (⟨0, 0⟩ : S24)⟩ : S30)]) := ⟨_, rfl⟩
                                        replace H : (if x6_1.length < 17592186044416 then (token_Scan.l0 kj14 a0 y150 (x6_1 ++ [x7_1]) x8_14) else (none)) = some (r1, r2, r3, r4) := by first | (rw [hy150]; with_reducible exact H) | (have H2_ := (Option.bind_some _ _).symm.trans H; rw [hy150]; with_reducible exact H2_) | (have H2_ := (Option.bind_some _ _).symm.trans H; with_reducible exact H2_) | with_reducible exact H | (rw [hy150]; exact H) | exact H
                                        have Ny150 := Aside0.mk hy150
                                        clear hy150
                                        by_cases c64 : x6_1.length < 17592186044416
                                        · rw [if_pos c64] at H
                                          have LMc64 := Aside0.mk c64
                                          clear c64
                                          obtain ⟨y153, hy153⟩ : ∃ y_ : List Int, y_ = (x6_1 ++ [x7_1]) := ⟨_, rfl⟩
                                          replace H : (token_Scan.l0 kj14 a0 y150 y153 x8_14) = some (r1, r2, r3, r4) := by first | (rw [hy153]; with_reducible exact H) | (have H2_ := (Option.bind_some _ _).symm.trans H; rw [hy153]; with_reducible exact H2_) | (have H2_ := (Option.bind_some _ _).symm.trans H; with_reducible exact H2_) | with_reducible exact H | (rw [hy153]; exact H) | exact H
                                          have Ny153 := Aside0.mk hy153
                                          clear hy153
                                          have H' := Aside0.mk H
                                          clear H
                                          go_wp2_with (first | ((with_reducible refine gate_callee (f := 23) rfl ?_); refine goesL_ (some 93) rfl rfl Try.func23 (by kernel_rfl) rfl #[.string sw_] rfl (by (try simp only [List.map_toArray, List.map_cons, List.map_nil]); first | done | rfl | (simp only [List.length_drop, List.length_take]; rfl)) ?_; (with_reducible refine (strings_Clone.calls sw_ t138 _ A41.out).mono ?_); rintro e w65 ⟨rfl, hb⟩; refine ⟨_, rfl, ?_⟩; have n0_ := Aside0.mk (Kd.R_below (by (with_reducible repeat (first | apply Kd.R_alloc | apply Kd.R_drewN | apply Kd.R_drew)); exact HO_5.out) hb); have n1_ := Aside0.mk (Kd.R_below (by (with_reducible repeat (first | apply Kd.R_alloc | apply Kd.R_drewN | apply Kd.R_drew)); exact HO_6.out) hb); have n2_ := Aside0.mk (blk_below (g := gb126) (o := .cells #[.int .i64 x127000_1, .int .i64 x127001_1] 24 (0, 0)) (by (with_reducible repeat (first | refine blk_drewN ?_ _ | refine blk_drew ?_ | refine blk_alloc ?_ _)); exact BK126.out) hb); have n3_ := Aside0.mk (below_step (by repeat (first | (with_reducible first | exact HB.out | apply below_alloc | apply pw_below_drewN | apply below_drew1 | refine below_set ?_ GE126.out) | exact HB.out)) hb); clear HO_5; clear HO_6; clear BK126; clear HB; have HO_5 := n0_; have HO_6 := n1_; have BK126 := n2_; have HB := n3_; clear n0_ n1_ n2_ n3_; (try clear hb); (try clear hb2); (try clear hk); (try clear hi)) | ((with_reducible refine gate_dst (N := 12) rfl ?_); refine box_event ?hg (N := 12) ?hd (cs := #[.int .i64 0, .string (⟨#[]⟩ : ByteArray), .int .u16 0, .int .i64 0, .int .i64 0]) (t := 30) ?hr ?_; (case hd => rfl); (case hg => rfl); (case hr => first | (go_simp; done) | (go_simp; rfl)); intro gb139 hg w66 hbox hb; have n0_ := Aside0.mk (Kd.R_below (Kd.R_elderB (by (with_reducible repeat (first | apply Kd.R_alloc | apply Kd.R_drewN | apply Kd.R_drew)); exact HO_5.out) gb139 (Nat.le_of_eq hg.symm)) hb); have n1_ := Aside0.mk (Kd.R_below (by (with_reducible repeat (first | apply Kd.R_alloc | apply Kd.R_drewN | apply Kd.R_drew)); exact HO_6.out) hb); have n2_ := Aside0.mk (blk_below (g := gb126) (o := .cells #[.int .i64 x127000_1, .int .i64 x127001_1] 24 (0, 0)) (by (with_reducible repeat (first | refine blk_drewN ?_ _ | refine blk_drew ?_ | refine blk_alloc ?_ _)); exact BK126.out) hb); have n3_ := Aside0.mk (below_step (by repeat (first | (with_reducible first | exact HB.out | apply below_alloc | apply pw_below_drewN | apply below_drew1 | refine below_set ?_ GE126.out) | exact HB.out)) hb); have n4_ := Aside0.mk (hbox); have n5_ := Aside0.mk ((by rw [hg]; exact (below_size (by repeat (first | (with_reducible first | exact HB.out | apply below_alloc | apply pw_below_drewN | apply below_drew1 | refine below_set ?_ GE126.out) | exact HB.out))) : w.heap.size ≤ gb139)); have n6_ := Aside0.mk ((by rw [hg]; exact (below_size (by repeat (first | (with_reducible first | exact HB.out | apply below_alloc | apply pw_below_drewN | apply below_drew1 | refine below_set ?_ GE126.out) | exact HB.out))) : w.heap.size ≤ gb139)); have n7_ := Aside0.mk ((by rw [hg]; exact Nat.ne_of_lt (blk_lt (g := gb126) (o := .cells #[.int .i64 x127000_1, .int .i64 x127001_1] 24 (0, 0)) (by (with_reducible repeat (first | refine blk_drewN ?_ _ | refine blk_drew ?_ | refine blk_alloc ?_ _)); exact BK126.out)) : gb126 ≠ gb139)); have n8_ := Aside0.mk ((by rw [hg]; exact Nat.ne_of_gt (blk_lt (g := gb126) (o := .cells #[.int .i64 x127000_1, .int .i64 x127001_1] 24 (0, 0)) (by (with_reducible repeat (first | refine blk_drewN ?_ _ | refine blk_drew ?_ | refine blk_alloc ?_ _)); exact BK126.out)) : gb139 ≠ gb126)); clear HO_5; clear HO_6; clear BK126; clear HB; have HO_5 := n0_; have HO_6 := n1_; have BK126 := n2_; have HB := n3_; have BK139 := n4_; have GW139 := n5_; have GE139 := n6_; have NB126_139 := n7_; have NB139_126 := n8_; clear n0_ n1_ n2_ n3_ n4_ n5_ n6_ n7_ n8_; clear hb hbox hg; have hnb67 := NB139_126.out; have hnc67 := NB126_139.out; have hcz68_0 : w66.cell? ⟨gb139, 0, none⟩ = some (.int .i64 0) := (blk_cell BK139.out 0).trans rfl; have hcz68_1 : w66.cell? ⟨gb139, 1, none⟩ = some (.string (⟨#[]⟩ : ByteArray)) := (blk_cell BK139.out 1).trans rfl; have hcz68_2 : w66.cell? ⟨gb139, 2, none⟩ = some (.int .u16 0) := (blk_cell BK139.out 2).trans rfl; have hcz68_3 : w66.cell? ⟨gb139, 3, none⟩ = some (.int .i64 0) := (blk_cell BK139.out 3).trans rfl; have hcz68_4 : w66.cell? ⟨gb139, 4, none⟩ = some (.int .i64 0) := (blk_cell BK139.out 4).trans rfl; have hfz68_0 := blk_frozen BK139.out 0; have hfz68_1 := blk_frozen BK139.out 1; have hfz68_2 := blk_frozen BK139.out 2; have hfz68_3 := blk_frozen BK139.out 3; have hfz68_4 := blk_frozen BK139.out 4) | ((with_reducible refine gate_callee (f := 24) rfl ?_); refine goesL_ (some 97) rfl rfl Try.func24 (by kernel_rfl) rfl #[.string sw_] rfl (by (try simp only [List.map_toArray, List.map_cons, List.map_nil]); first | done | rfl | (simp only [List.length_drop, List.length_take]; rfl)) ?_; (with_reducible refine (text_Numeral.calls kj14 sw_ t140 t141 _ A42.out).mono ?_); rintro e w69 ⟨rfl, hb⟩; refine ⟨_, rfl, ?_⟩; have n0_ := Aside0.mk (Kd.R_below (by (with_reducible repeat (first | apply Kd.R_alloc | apply Kd.R_drewN | apply Kd.R_drew)); exact (Kd.R_mono (Kd.R_far (p := ⟨gb139, 4, none⟩) (Kd.R_far (p := ⟨gb139, 3, none⟩) (Kd.R_far (p := ⟨gb139, 2, none⟩) (Kd.R_far (p := ⟨gb139, 1, none⟩) (Kd.R_far (p := ⟨gb139, 0, none⟩) (Kd.R_mono HO_5.out (fun k_ hk => (⟨hk, hk.2⟩ : _ ∧ k_ ≠ gb139))) (fun _ hk => hk.2) (.int .i64 1)) (fun _ hk => hk.2) (.string t138)) (fun _ hk => hk.2) (.int .u16 0)) (fun _ hk => hk.2) (.int .i64 0)) (fun _ hk => hk.2) (.int .i64 0)) (fun _ h_ => h_.1))) hb); have n1_ := Aside0.mk (Kd.R_below (by (with_reducible repeat (first | apply Kd.R_alloc | apply Kd.R_drewN | apply Kd.R_drew)); exact (Kd.R_mono (Kd.R_far (p := ⟨gb139, 4, none⟩) (Kd.R_far (p := ⟨gb139, 3, none⟩) (Kd.R_far (p := ⟨gb139, 2, none⟩) (Kd.R_far (p := ⟨gb139, 1, none⟩) (Kd.R_far (p := ⟨gb139, 0, none⟩) (Kd.R_types HO_6.out BK139.out (by decide)) (fun _ hk => hk.2) (.int .i64 1)) (fun _ hk => hk.2) (.string t138)) (fun _ hk => hk.2) (.int .u16 0)) (fun _ hk => hk.2) (.int .i64 0)) (fun _ hk => hk.2) (.int .i64 0)) (fun _ h_ => h_.1))) hb); have n2_ := Aside0.mk (blk_below (g := gb126) (o := .cells #[.int .i64 x127000_1, .int .i64 x127001_1] 24 (0, 0)) (by (with_reducible repeat (first | refine blk_drewN ?_ _ | refine blk_drew ?_ | refine blk_alloc ?_ _)); refine blk_far ?_ NB126_139.out _; (with_reducible repeat (first | refine blk_drewN ?_ _ | refine blk_drew ?_ | refine blk_alloc ?_ _)); refine blk_far ?_ NB126_139.out _; (with_reducible repeat (first | refine blk_drewN ?_ _ | refine blk_drew ?_ | refine blk_alloc ?_ _)); refine blk_far ?_ NB126_139.out _; (with_reducible repeat (first | refine blk_drewN ?_ _ | refine blk_drew ?_ | refine blk_alloc ?_ _)); refine blk_far ?_ NB126_139.out _; (with_reducible repeat (first | refine blk_drewN ?_ _ | refine blk_drew ?_ | refine blk_alloc ?_ _)); refine blk_far ?_ NB126_139.out _; (with_reducible repeat (first | refine blk_drewN ?_ _ | refine blk_drew ?_ | refine blk_alloc ?_ _)); exact BK126.out) hb); have n3_ := Aside0.mk (blk_below (g := gb139) (o := .cells #[.int .i64 1, .string t138, .int .u16 0, .int .i64 0, .int .i64 0] 30 (0, 0)) (by (with_reducible repeat (first | refine blk_drewN ?_ _ | refine blk_drew ?_ | refine blk_alloc ?_ _)); refine blk_put (cs := #[.int .i64 1, .string t138, .int .u16 0, .int .i64 0, .int .i64 0]) ?_ 4 _ rfl; (with_reducible repeat (first | refine blk_drewN ?_ _ | refine blk_drew ?_ | refine blk_alloc ?_ _)); refine blk_put (cs := #[.int .i64 1, .string t138, .int .u16 0, .int .i64 0, .int .i64 0]) ?_ 3 _ rfl; (with_reducible repeat (first | refine blk_drewN ?_ _ | refine blk_drew ?_ | refine blk_alloc ?_ _)); refine blk_put (cs := #[.int .i64 1, .string t138, .int .u16 0, .int .i64 0, .int .i64 0]) ?_ 2 _ rfl; (with_reducible repeat (first | refine blk_drewN ?_ _ | refine blk_drew ?_ | refine blk_alloc ?_ _)); refine blk_put (cs := #[.int .i64 1, .string (⟨#[]⟩ : ByteArray), .int .u16 0, .int .i64 0, .int .i64 0]) ?_ 1 _ rfl; (with_reducible repeat (first | refine blk_drewN ?_ _ | refine blk_drew ?_ | refine blk_alloc ?_ _)); refine blk_put (cs := #[.int .i64 0, .string (⟨#[]⟩ : ByteArray), .int .u16 0, .int .i64 0, .int .i64 0]) ?_ 0 _ rfl; (with_reducible repeat (first | refine blk_drewN ?_ _ | refine blk_drew ?_ | refine blk_alloc ?_ _)); exact BK139.out) hb); have n4_ := Aside0.mk (below_step (by repeat (first | (with_reducible first | exact HB.out | apply below_alloc | apply pw_below_drewN | apply below_drew1 | refine below_set ?_ GE126.out | refine below_set ?_ GE139.out) | exact HB.out)) hb); clear HO_5; clear HO_6; clear BK126; clear BK139; clear HB; have HO_5 := n0_; have HO_6 := n1_; have BK126 := n2_; have BK139 := n3_; have HB := n4_; clear n0_ n1_ n2_ n3_ n4_; (try clear hb); (try clear hb2); (try clear hk); (try clear hi); have hcz70_0 : w69.cell? ⟨gb139, 0, none⟩ = some (.int .i64 1) := (blk_cell BK139.out 0).trans rfl; have hcz70_1 : w69.cell? ⟨gb139, 1, none⟩ = some (.string t138) := (blk_cell BK139.out 1).trans rfl; have hcz70_2 : w69.cell? ⟨gb139, 2, none⟩ = some (.int .u16 0) := (blk_cell BK139.out 2).trans rfl; have hcz70_3 : w69.cell? ⟨gb139, 3, none⟩ = some (.int .i64 0) := (blk_cell BK139.out 3).trans rfl; have hcz70_4 : w69.cell? ⟨gb139, 4, none⟩ = some (.int .i64 0) := (blk_cell BK139.out 4).trans rfl; have hfz70_0 := blk_frozen BK139.out 0; have hfz70_1 := blk_frozen BK139.out 1; have hfz70_2 := blk_frozen BK139.out 2; have hfz70_3 := blk_frozen BK139.out 3; have hfz70_4 := blk_frozen BK139.out 4) | ((with_reducible refine gate_builtin (b := .append) (xs := #[.tmp 111, .tmp 113]) rfl ?_); at_builtin; refine Kd.R_append k30 (w0 := w) w.heap.size rfl (.tmp 111) (.tmp 113) 22 30 (.agg #[(.int .i64 0), (.string ⟨#[]⟩), (.int .u16 0), (.int .i64 0), (.int .i64 0)]) 48 rfl Try.underlying22 info30 rfl (by decide) (by omega) u5 x5_1 (⟨1, t138, 0, (⟨0, 0⟩ : S24)⟩ : S30) [.int .i64 1, .string t138, .int .u16 0, .int .i64 0, .int .i64 0] (fun k_ => k_ ≠ gb139) (fun _ => False) rfl rfl ?aP (fun _ hk => hk.elim) ?aF ?aO ?aB ?aS ?aL ?_; (case aP => exact k30_mkM _ _ _ (⟨1, t138, 0, (⟨0, 0⟩ : S24)⟩ : S30)); (case aB => exact (by repeat (first | (with_reducible first | exact HB.out | apply below_alloc | apply pw_below_drewN | apply below_drew1 | refine below_set ?_ GE126.out | refine below_set ?_ GE139.out) | exact HB.out))); (case aF => exact (fun k_ hk => Kd.freshB (g := gb139) (o := .cells #[.int .i64 1, .string t138, .int .u16 0, .int .i64 0, .int .i64 0] 30 (0, 0)) (by (with_reducible repeat (first | refine blk_drewN ?_ _ | refine blk_drew ?_ | refine blk_alloc ?_ _)); exact BK139.out) k_ hk)); (case aO => exact (by (with_reducible repeat (first | apply Kd.R_alloc | apply Kd.R_drewN | apply Kd.R_drew)); exact Kd.R_mono HO_5.out (fun _ hk => hk.2))); (case aS => exact (below_size (by repeat (first | (with_reducible first | exact HB.out | apply below_alloc | apply pw_below_drewN | apply below_drew1 | refine below_set ?_ GE126.out | refine below_set ?_ GE139.out) | exact HB.out)))); (case aL => have := LMc63.out; omega); intro v151 w71 ho hb hg hat; rw [← Ny150.out] at ho; have n0_ := Aside0.mk (Kd.R_over' (by (with_reducible repeat (first | apply Kd.R_alloc | apply Kd.R_drewN | apply Kd.R_drew)); exact HO_6.out) (Kd.R_typed (by (with_reducible repeat (first | apply Kd.R_alloc | apply Kd.R_drewN | apply Kd.R_drew)); exact HO_5.out)) (by decide) hg); have n1_ := Aside0.mk (blk_grown (g := gb126) (o := .cells #[.int .i64 x127000_1, .int .i64 x127001_1] 24 (0, 0)) (by (with_reducible repeat (first | refine blk_drewN ?_ _ | refine blk_drew ?_ | refine blk_alloc ?_ _)); exact BK126.out) hg (Kd.R_ne HO_5.out BK126.out (by decide))); have n2_ := Aside0.mk (blk_grown (g := gb139) (o := .cells #[.int .i64 1, .string t138, .int .u16 0, .int .i64 0, .int .i64 0] 30 (0, 0)) (by (with_reducible repeat (first | refine blk_drewN ?_ _ | refine blk_drew ?_ | refine blk_alloc ?_ _)); exact BK139.out) hg (Kd.R_away HO_5.out (fun _ hk => hk.2))); have n3_ := Aside0.mk (hb); have n4_ := Aside0.mk (ho); clear HO_6; clear BK126; clear BK139; clear HB; clear HO_5; have HO_6 := n0_; have BK126 := n1_; have BK139 := n2_; have HB := n3_; have HO152 := n4_; clear n0_ n1_ n2_ n3_ n4_; clear ho hb hg hat) | ((with_reducible refine gate_builtin (b := .append) (xs := #[.tmp 115, .tmp 117]) rfl ?_); at_builtin; refine Kd.R_append (Kd.int .i64) (w0 := w) w.heap.size rfl (.tmp 115) (.tmp 117) 47 3 (.int .i64 0) 8 rfl Try.underlying47 info3 rfl (by decide) (by omega) u6 x6_1 x7_1 [.int .i64 x7_1] (fun _ => True) (fun _ => False) rfl rfl ?aP (fun _ hk => hk.elim) ?aF ?aO ?aB ?aS ?aL ?_; (case aP => exact rfl); (case aB => exact (by repeat (first | (with_reducible first | exact HB.out | apply below_alloc | apply pw_below_drewN | apply below_drew1 | refine below_set ?_ GE126.out | refine below_set ?_ GE139.out) | exact HB.out))); (case aF => exact (fun _ _ => trivial)); (case aO => exact (by (with_reducible repeat (first | apply Kd.R_alloc | apply Kd.R_drewN | apply Kd.R_drew)); exact HO_6.out)); (case aS => exact (below_size (by repeat (first | (with_reducible first | exact HB.out | apply below_alloc | apply pw_below_drewN | apply below_drew1 | refine below_set ?_ GE126.out | refine below_set ?_ GE139.out) | exact HB.out)))); (case aL => have := LMc64.out; omega); intro v154 w72 ho hb hg hat; rw [← Ny153.out] at ho; have n0_ := Aside0.mk (blk_grown (g := gb126) (o := .cells #[.int .i64 x127000_1, .int .i64 x127001_1] 24 (0, 0)) (by (with_reducible repeat (first | refine blk_drewN ?_ _ | refine blk_drew ?_ | refine blk_alloc ?_ _)); exact BK126.out) hg (Kd.R_ne HO_6.out BK126.out (by decide))); have n1_ := Aside0.mk (blk_grown (g := gb139) (o := .cells #[.int .i64 1, .string t138, .int .u16 0, .int .i64 0, .int .i64 0] 30 (0, 0)) (by (with_reducible repeat (first | refine blk_drewN ?_ _ | refine blk_drew ?_ | refine blk_alloc ?_ _)); exact BK139.out) hg (Kd.R_ne HO_6.out BK139.out (by decide))); have n2_ := Aside0.mk (Kd.R_over' (by (with_reducible repeat (first | apply Kd.R_alloc | apply Kd.R_drewN | apply Kd.R_drew)); exact HO152.out) (Kd.R_typed (by (with_reducible repeat (first | apply Kd.R_alloc | apply Kd.R_drewN | apply Kd.R_drew)); exact HO_6.out)) (by decide) hg); have n3_ := Aside0.mk (hb); have n4_ := Aside0.mk (ho); clear BK126; clear BK139; clear HO152; clear HB; clear HO_6; have BK126 := n0_; have BK139 := n1_; have HO152 := n2_; have HB := n3_; have HO155 := n4_; clear n0_ n1_ n2_ n3_ n4_; clear ho hb hg hat))
                                          go_roundg kj14
                                          case measure => have := HK1.out; have := HJ14.out; omega
                                          case rel => exact ⟨(y150), (y153), (x8_14), (x127000_1), (x127001_1), (by first | rfl | (simp; done) | (simp [*]; done) | (simp [isEmpty_ne]; done)), H', ⟨by have := HK1.out; have := HJ14.out; omega⟩, ⟨by (with_reducible repeat (first | apply Kd.R_alloc | apply Kd.R_drewN | apply Kd.R_drew)); exact Kd.R_mono HO152.out (fun _ hk => trivial)⟩, ⟨by (with_reducible repeat (first | apply Kd.R_alloc | apply Kd.R_drewN | apply Kd.R_drew)); exact HO155.out⟩, ⟨by (with_reducible repeat (first | refine blk_drewN ?_ _ | refine blk_drew ?_ | refine blk_alloc ?_ _)); exact BK126.out⟩, ⟨by repeat (first | (with_reducible first | exact HB.out | apply below_alloc | apply pw_below_drewN | apply below_drew1 | refine below_set ?_ GE126.out | refine below_set ?_ GE139.out) | exact HB.out)⟩⟩
                                        · rw [if_neg c64] at H
                                          exact absurd H (by simp)
                                      · rw [if_neg c63] at H
                                        exact absurd H (by simp)
                          · rw [if_neg c23] at H
                            exact absurd H (by simp)
                        · rw [if_neg c22] at H
                          exact absurd H (by simp)
                      · rw [if_neg c21] at H
                        exact absurd H (by simp)
                · replace c14 := Bool.eq_false_iff.mpr c14
                  subst c14
                  have H1 : ((token_place.f k1 a0 x7_1).bind fun bt129 => (some (([] : List (S30)), bt129.1, bt129.2, 91))) = some (r1, r2, r3, r4) := by rw [if_neg (show ¬ (false = true) by decide)] at H; exact H
                  clear H
                  have H := H1
                  clear H1
                  replace H := Option.bind_eq_some_iff.mp H
                  obtain ⟨⟨t129, t130⟩, A730, H⟩ := H
                  replace H : (some (([] : List (S30)), t129, t130, 91)) = some (r1, r2, r3, r4) := H
                  have A73 := Aside0.mk A730
                  clear A730
                  simp only [Option.some.injEq, Prod.mk.injEq] at H
                  obtain ⟨rfl, rfl, rfl, rfl⟩ := H
                  have p9 : 0 ≤ (x7_1 : Int) := of_decide_eq_true (by first | (with_reducible assumption) | assumption)
                  have q9 : x7_1 < (a0.size : Int) := of_decide_eq_true (by first | (with_reducible assumption) | assumption)
                  have hx9 := bt_at a0 x7_1
                  replace p9 := eq_true p9
                  replace q9 := eq_true q9
                  go_wp2_with (first | ((with_reducible refine gate_callee (f := 19) rfl ?_); refine goesL_ (some 28) rfl rfl Try.func19 (by kernel_rfl) rfl #[.int .u8 (bt a0 x7_1)] rfl (by (try simp only [List.map_toArray, List.map_cons, List.map_nil]); first | done | rfl | (simp only [List.length_drop, List.length_take]; rfl)) ?_; (with_reducible refine (token_blank.calls (bt a0 x7_1) false _ A10.out).mono ?_); rintro e w' ⟨rfl, ⟨nd, rfl⟩⟩; refine ⟨_, rfl, ?_⟩; (try (rw [drewN_self wr]; generalize hq_ : World.drewN wr _ = wr; have n0_ : Aside0 (Kd.R k30 30 wr w.heap.size (fun _ => True) u5 x5_1) := ⟨by rw [← hq_]; exact (by (with_reducible repeat (first | apply Kd.R_alloc | apply Kd.R_drewN | apply Kd.R_drew)); exact HO_5.out)⟩; have n1_ : Aside0 (Kd.R (Kd.int .i64) 3 wr w.heap.size (fun _ => True) u6 x6_1) := ⟨by rw [← hq_]; exact (by (with_reducible repeat (first | apply Kd.R_alloc | apply Kd.R_drewN | apply Kd.R_drew)); exact HO_6.out)⟩; have n2_ : Aside0 (wr.heap[gb126]? = some (.cells #[.int .i64 x127000_1, .int .i64 x127001_1] 24 (0, 0))) := ⟨by rw [← hq_]; exact (by (with_reducible repeat (first | refine blk_drewN ?_ _ | refine blk_drew ?_ | refine blk_alloc ?_ _)); exact BK126.out)⟩; have n3_ : Aside0 (Below w.heap.size w wr) := ⟨by rw [← hq_]; exact (by repeat (first | (with_reducible first | exact HB.out | apply below_alloc | apply pw_below_drewN | apply below_drew1 | refine below_set ?_ GE126.out) | exact HB.out))⟩; clear HO_5 HO_6 BK126 HB hq_; have HO_5 := n0_; have HO_6 := n1_; have BK126 := n2_; have HB := n3_; clear n0_ n1_ n2_ n3_)); have p12 : 0 ≤ (x7_1 : Int) := of_decide_eq_true (by first | (with_reducible assumption) | assumption); have q12 : x7_1 < (a0.size : Int) := of_decide_eq_true (by first | (with_reducible assumption) | assumption); have hx12 := bt_at a0 x7_1; replace p12 := eq_true p12; replace q12 := eq_true q12) | ((with_reducible refine gate_callee (f := 20) rfl ?_); refine goesL_ (some 34) rfl rfl Try.func20 (by kernel_rfl) rfl #[.int .u8 (bt a0 x7_1)] rfl (by (try simp only [List.map_toArray, List.map_cons, List.map_nil]); first | done | rfl | (simp only [List.length_drop, List.length_take]; rfl)) ?_; (with_reducible refine (token_part.calls (bt a0 x7_1) false _ A13.out).mono ?_); rintro e w' ⟨rfl, ⟨nd, rfl⟩⟩; refine ⟨_, rfl, ?_⟩; (try (rw [drewN_self wr]; generalize hq_ : World.drewN wr _ = wr; have n0_ : Aside0 (Kd.R k30 30 wr w.heap.size (fun _ => True) u5 x5_1) := ⟨by rw [← hq_]; exact (by (with_reducible repeat (first | apply Kd.R_alloc | apply Kd.R_drewN | apply Kd.R_drew)); exact HO_5.out)⟩; have n1_ : Aside0 (Kd.R (Kd.int .i64) 3 wr w.heap.size (fun _ => True) u6 x6_1) := ⟨by rw [← hq_]; exact (by (with_reducible repeat (first | apply Kd.R_alloc | apply Kd.R_drewN | apply Kd.R_drew)); exact HO_6.out)⟩; have n2_ : Aside0 (wr.heap[gb126]? = some (.cells #[.int .i64 x127000_1, .int .i64 x127001_1] 24 (0, 0))) := ⟨by rw [← hq_]; exact (by (with_reducible repeat (first | refine blk_drewN ?_ _ | refine blk_drew ?_ | refine blk_alloc ?_ _)); exact BK126.out)⟩; have n3_ : Aside0 (Below w.heap.size w wr) := ⟨by rw [← hq_]; exact (by repeat (first | (with_reducible first | exact HB.out | apply below_alloc | apply pw_below_drewN | apply below_drew1 | refine below_set ?_ GE126.out) | exact HB.out))⟩; clear HO_5 HO_6 BK126 HB hq_; have HO_5 := n0_; have HO_6 := n1_; have BK126 := n2_; have HB := n3_; clear n0_ n1_ n2_ n3_))) | ((with_reducible refine gate_callee (f := 21) rfl ?_); refine goesL_ (some 38) rfl rfl Try.func21 (by kernel_rfl) rfl #[.string a0, .int .i64 x7_1] rfl (by (try simp only [List.map_toArray, List.map_cons, List.map_nil]); first | done | rfl | (simp only [List.length_drop, List.length_take]; rfl)) ?_; (with_reducible refine (token_place.calls k1 a0 x7_1 t129 t130 _ A73.out).mono ?_); rintro e w74 ⟨rfl, hb⟩; refine ⟨_, rfl, ?_⟩; have n0_ := Aside0.mk (Kd.R_below (by (with_reducible repeat (first | apply Kd.R_alloc | apply Kd.R_drewN | apply Kd.R_drew)); exact HO_5.out) hb); have n1_ := Aside0.mk (Kd.R_below (by (with_reducible repeat (first | apply Kd.R_alloc | apply Kd.R_drewN | apply Kd.R_drew)); exact HO_6.out) hb); have n2_ := Aside0.mk (blk_below (g := gb126) (o := .cells #[.int .i64 x127000_1, .int .i64 x127001_1] 24 (0, 0)) (by (with_reducible repeat (first | refine blk_drewN ?_ _ | refine blk_drew ?_ | refine blk_alloc ?_ _)); exact BK126.out) hb); have n3_ := Aside0.mk (below_step (by repeat (first | (with_reducible first | exact HB.out | apply below_alloc | apply pw_below_drewN | apply below_drew1 | refine below_set ?_ GE126.out) | exact HB.out)) hb); clear HO_5; clear HO_6; clear BK126; clear HB; have HO_5 := n0_; have HO_6 := n1_; have BK126 := n2_; have HB := n3_; clear n0_ n1_ n2_ n3_; (try clear hb); (try clear hb2); (try clear hk); (try clear hi); have hcz75_0 : w74.cell? ⟨gb126, 0, none⟩ = some (.int .i64 x127000_1) := (blk_cell BK126.out 0).trans rfl; have hcz75_1 : w74.cell? ⟨gb126, 1, none⟩ = some (.int .i64 x127001_1) := (blk_cell BK126.out 1).trans rfl; have hfz75_0 := blk_frozen BK126.out 0; have hfz75_1 := blk_frozen BK126.out 1))
                  (try dsimp only [Exit.noGoto])
                  refine bodyPost_ret (results_list (rs := [.tmp 2, .cell 3 24, .tmp 4]) rfl (by simp) (.tmp (.cell gb126 24 #[.int .i64 t129, .int .i64 t130] (0, 0) _ rfl (by (with_reducible repeat (first | refine blk_drewN ?_ _ | refine blk_drew ?_ | refine blk_alloc ?_ _)); refine blk_put (cs := #[.int .i64 t129, .int .i64 x127001_1]) ?_ 1 _ rfl; (with_reducible repeat (first | refine blk_drewN ?_ _ | refine blk_drew ?_ | refine blk_alloc ?_ _)); refine blk_put (cs := #[.int .i64 x127000_1, .int .i64 x127001_1]) ?_ 0 _ rfl; (with_reducible repeat (first | refine blk_drewN ?_ _ | refine blk_drew ?_ | refine blk_alloc ?_ _)); exact BK126.out) Try.underlying24 rfl (by kernel_rfl) (.tmp .nil)))) rfl ?_
                  exact ⟨_, by first | rfl | (simp [errW_none, errW_some] <;> rfl) | (simp [*, errW_none, errW_some] <;> rfl), by first | exact Kd.R_nil _ _ _ _ _ | exact Kd.N_nil _ _ _ _ _ | exact Kd.V_nil _ _ _ _ _ | exact Kd.Q_nil _ _ _ _ _ | exact Kd.S_nil _ _ _ _ _, by repeat (first | (with_reducible first | exact HB.out | apply below_alloc | apply pw_below_drewN | apply below_drew1 | refine below_set ?_ GE126.out) | exact HB.out)⟩
            · rw [if_neg c8] at H
              exact absurd H (by simp)
          · rw [if_neg c7] at H
            have c7b0 : decide (x7_1 < (a0.size : Int)) = false := decide_eq_false c7
            clear c7
            (first | rw [c7b0] | (simp only [i64_w, i32_w]; rw [c7b0]) | skip)
            have H' := Aside0.mk H
            clear H
            go_wp2
            go_meet
            case rel => exact ⟨_, (x5_1), (x6_1), (x127000_1), (x127001_1), H', ⟨by have := HK1.out; first | omega | exact Nat.le_refl _⟩, ⟨by (with_reducible repeat (first | apply Kd.R_alloc | apply Kd.R_drewN | apply Kd.R_drew)); exact HO_5.out⟩, ⟨by (with_reducible repeat (first | apply Kd.R_alloc | apply Kd.R_drewN | apply Kd.R_drew)); exact HO_6.out⟩, ⟨by (with_reducible repeat (first | refine blk_drewN ?_ _ | refine blk_drew ?_ | refine blk_alloc ?_ _)); exact BK126.out⟩, ⟨by repeat (first | (with_reducible first | exact HB.out | apply below_alloc | apply pw_below_drewN | apply below_drew1 | refine below_set ?_ GE126.out) | exact HB.out)⟩⟩
    case rest =>
      clear HC5
      try clear c1
      try clear p1
      try clear q1
      try clear hx1
      try clear c2
      try clear c2b0
      try clear c2b1
      try clear p2
      try clear c3
      try clear c4
      try clear c5
      try clear c6
      try clear p6
      try clear c7
      try clear c7b0
      try clear c8
      try clear c8b0
      try clear p9
      try clear q9
      try clear hx9
      try clear c11
      try clear p12
      try clear q12
      try clear hx12
      try clear c14
      try clear c16
      try clear c16b0
      try clear c17
      try clear c17b0
      try clear p18
      try clear q18
      try clear hx18
      try clear c19
      try clear c20
      try clear c21
      try clear c21b0
      try clear c21b1
      try clear c22
      try clear c22b0
      try clear c22b1
      try clear c23
      try clear c23b0
      try clear c23b1
      try clear c24
      try clear c24b0
      try clear c24b1
      try clear c25
      try clear c25b0
      try clear c25b1
      try clear c26
      try clear c26b0
      try clear c28
      try clear c28b0
      try clear c29
      try clear c29b0
      try clear c29b1
      try clear c30
      try clear c30b0
      try clear c30b1
      try clear c31
      try clear c31b0
      try clear c33
      try clear c33b0
      try clear c37
      try clear c37b0
      try clear c37b1
      try clear c43
      try clear c43b0
      try clear c43b1
      try clear c44
      try clear c45
      try clear c48
      try clear c54
      try clear c54b0
      try clear c54b1
      try clear c58
      try clear c63
      try clear c64
      try clear p64
      try clear c67
      try clear hcz36_0
      try clear hcz36_1
      try clear hcz40_0
      try clear hcz40_1
      try clear hcz49_0
      try clear hcz49_1
      try clear hcz49_2
      try clear hcz49_3
      try clear hcz49_4
      try clear hcz4_0
      try clear hcz4_1
      try clear hcz51_0
      try clear hcz51_1
      try clear hcz51_2
      try clear hcz51_3
      try clear hcz51_4
      try clear hcz59_0
      try clear hcz59_1
      try clear hcz59_2
      try clear hcz59_3
      try clear hcz59_4
      try clear hcz62_0
      try clear hcz62_1
      try clear hcz68_0
      try clear hcz68_1
      try clear hcz68_2
      try clear hcz68_3
      try clear hcz68_4
      try clear hcz70_0
      try clear hcz70_1
      try clear hcz70_2
      try clear hcz70_3
      try clear hcz70_4
      try clear hcz75_0
      try clear hcz75_1
      try clear hfz36_0
      try clear hfz36_1
      try clear hfz40_0
      try clear hfz40_1
      try clear hfz49_0
      try clear hfz49_1
      try clear hfz49_2
      try clear hfz49_3
      try clear hfz49_4
      try clear hfz4_0
      try clear hfz4_1
      try clear hfz51_0
      try clear hfz51_1
      try clear hfz51_2
      try clear hfz51_3
      try clear hfz51_4
      try clear hfz59_0
      try clear hfz59_1
      try clear hfz59_2
      try clear hfz59_3
      try clear hfz59_4
      try clear hfz62_0
      try clear hfz62_1
      try clear hfz68_0
      try clear hfz68_1
      try clear hfz68_2
      try clear hfz68_3
      try clear hfz68_4
      try clear hfz70_0
      try clear hfz70_1
      try clear hfz70_2
      try clear hfz70_3
      try clear hfz70_4
      try clear hfz75_0
      try clear hfz75_1
      try clear p1
      try clear p12
      try clear p18
      try clear p2
      try clear p6
      try clear p9
      try clear q1
      try clear q12
      try clear q18
      try clear q9
      obtain ⟨kq, x5_4, x6_4, x127000_4, x127001_4, HA, HJ4, HO_5, HO_6, BK126, HB⟩ := hcut
      cases kq with
      | zero => exact absurd HA.out (by simp [token_Scan.j3])
      | succ kj4 =>
        have H := HA.out
        clear HA
        simp only [token_Scan.j3] at H
        replace H := Option.bind_eq_some_iff.mp H
        obtain ⟨t156, A760, H⟩ := H
        replace H : (token_Scan.l2 kj4 x5_4 t156 (t156.length : Int) 0) = some (r1, r2, r3, r4) := H
        have A76 := Aside0.mk A760
        clear A760
        have H' := Aside0.mk H
        clear H
        obtain ⟨Ao77, co77, eo77⟩ := Kd.R_slice HO_6.out
        subst eo77
        go_wp2_with (first | ((with_reducible refine gate_callee (f := 25) rfl ?_); refine goesL_ (some 122) rfl rfl Try.func25 (by kernel_rfl) rfl #[.string a0, .slice Ao77 x6_4.length co77] rfl (by (try simp only [List.map_toArray, List.map_cons, List.map_nil]); first | done | rfl | (simp only [List.length_drop, List.length_take]; rfl)) ?_; (with_reducible refine (text_Places.calls kj4 a0 _ _ x6_4 t156 _ ?side1 ?side2 A76.out).mono ?_); (case side1 => repeat (first | exact (Kd.R_reads' HO_6.out).2.2 | (with_reducible refine Kd.C_alloc ?_ _) | (with_reducible refine Kd.C_drewN ?_ _) | (with_reducible refine Kd.C_drew ?_))); (case side2 => exact (Kd.R_reads' HO_6.out).2.1); rintro e w78 ⟨v157, rfl, ho0, hb⟩; refine ⟨_, rfl, ?_⟩; have n0_ := Aside0.mk (Kd.R_below (by (with_reducible repeat (first | apply Kd.R_alloc | apply Kd.R_drewN | apply Kd.R_drew)); exact HO_5.out) hb); have n1_ := Aside0.mk (Kd.R_below (by (with_reducible repeat (first | apply Kd.R_alloc | apply Kd.R_drewN | apply Kd.R_drew)); exact HO_6.out) hb); have n2_ := Aside0.mk (Kd.R_lower (Kd.R_newB ho0 (g := gb126) (o := .cells #[.int .i64 x127000_4, .int .i64 x127001_4] 24 (0, 0)) (by (with_reducible repeat (first | refine blk_drewN ?_ _ | refine blk_drew ?_ | refine blk_alloc ?_ _)); exact BK126.out)) (below_size (by repeat (first | (with_reducible first | exact HB.out | apply below_alloc | apply pw_below_drewN | apply below_drew1 | refine below_set ?_ GE126.out) | exact HB.out)))); have n3_ := Aside0.mk (blk_below (g := gb126) (o := .cells #[.int .i64 x127000_4, .int .i64 x127001_4] 24 (0, 0)) (by (with_reducible repeat (first | refine blk_drewN ?_ _ | refine blk_drew ?_ | refine blk_alloc ?_ _)); exact BK126.out) hb); have n4_ := Aside0.mk (below_step (by repeat (first | (with_reducible first | exact HB.out | apply below_alloc | apply pw_below_drewN | apply below_drew1 | refine below_set ?_ GE126.out) | exact HB.out)) hb); clear HO_5; clear HO_6; clear BK126; clear HB; have HO_5 := n0_; have HO_6 := n1_; have HO158 := n2_; have BK126 := n3_; have HB := n4_; clear n0_ n1_ n2_ n3_ n4_; (try clear hb); (try clear hb2); (try clear hk); (try clear hi); (try clear ho0); obtain ⟨Ao79, co79, eo79⟩ := Kd.R_slice HO158.out; subst eo79))
        go_loopg [124] kj4 (fun kq v124 w' => ∃ (x5_2 : List (S30)) (x124_2 : Int), v124 = .int .i64 x124_2 ∧ Aside0 (token_Scan.l2 kq x5_2 t156 (t156.length : Int) x124_2 = some (r1, r2, r3, r4)) ∧ Aside0 (kq ≤ kj4) ∧ Aside0 (Kd.R k30 30 w' w.heap.size (fun _ => True) u5 x5_2) ∧ Aside0 (Kd.R k24 24 w' w.heap.size (fun k_ => k_ ≠ gb126) (.slice Ao79 t156.length co79) t156) ∧ Aside0 (w'.heap[gb126]? = some (.cells #[.int .i64 x127000_4, .int .i64 x127001_4] 24 (0, 0))) ∧ Aside0 (Below w.heap.size w w'))
        case atStart => exact ⟨(x5_4), (0), (by first | rfl | (simp; done) | (simp [*]; done) | (simp [isEmpty_ne]; done)), H', ⟨Nat.le_refl _⟩, ⟨by (with_reducible repeat (first | apply Kd.R_alloc | apply Kd.R_drewN | apply Kd.R_drew)); exact HO_5.out⟩, ⟨by (with_reducible repeat (first | apply Kd.R_alloc | apply Kd.R_drewN | apply Kd.R_drew)); exact Kd.R_mono HO158.out (fun _ hk => hk.2)⟩, ⟨by (with_reducible repeat (first | refine blk_drewN ?_ _ | refine blk_drew ?_ | refine blk_alloc ?_ _)); exact BK126.out⟩, ⟨by repeat (first | (with_reducible first | exact HB.out | apply below_alloc | apply pw_below_drewN | apply below_drew1 | refine below_set ?_ GE126.out) | exact HB.out)⟩⟩
        case round =>
          clear H'
          try clear c1
          try clear p1
          try clear q1
          try clear hx1
          try clear c2
          try clear c2b0
          try clear c2b1
          try clear p2
          try clear c3
          try clear c4
          try clear c5
          try clear c6
          try clear p6
          try clear c7
          try clear c7b0
          try clear c8
          try clear c8b0
          try clear p9
          try clear q9
          try clear hx9
          try clear c11
          try clear p12
          try clear q12
          try clear hx12
          try clear c14
          try clear c16
          try clear c16b0
          try clear c17
          try clear c17b0
          try clear p18
          try clear q18
          try clear hx18
          try clear c19
          try clear c20
          try clear c21
          try clear c21b0
          try clear c21b1
          try clear c22
          try clear c22b0
          try clear c22b1
          try clear c23
          try clear c23b0
          try clear c23b1
          try clear c24
          try clear c24b0
          try clear c24b1
          try clear c25
          try clear c25b0
          try clear c25b1
          try clear c26
          try clear c26b0
          try clear c28
          try clear c28b0
          try clear c29
          try clear c29b0
          try clear c29b1
          try clear c30
          try clear c30b0
          try clear c30b1
          try clear c31
          try clear c31b0
          try clear c33
          try clear c33b0
          try clear c37
          try clear c37b0
          try clear c37b1
          try clear c43
          try clear c43b0
          try clear c43b1
          try clear c44
          try clear c45
          try clear c48
          try clear c54
          try clear c54b0
          try clear c54b1
          try clear c58
          try clear c63
          try clear c64
          try clear p64
          try clear c67
          try clear hcz36_0
          try clear hcz36_1
          try clear hcz40_0
          try clear hcz40_1
          try clear hcz49_0
          try clear hcz49_1
          try clear hcz49_2
          try clear hcz49_3
          try clear hcz49_4
          try clear hcz4_0
          try clear hcz4_1
          try clear hcz51_0
          try clear hcz51_1
          try clear hcz51_2
          try clear hcz51_3
          try clear hcz51_4
          try clear hcz59_0
          try clear hcz59_1
          try clear hcz59_2
          try clear hcz59_3
          try clear hcz59_4
          try clear hcz62_0
          try clear hcz62_1
          try clear hcz68_0
          try clear hcz68_1
          try clear hcz68_2
          try clear hcz68_3
          try clear hcz68_4
          try clear hcz70_0
          try clear hcz70_1
          try clear hcz70_2
          try clear hcz70_3
          try clear hcz70_4
          try clear hcz75_0
          try clear hcz75_1
          try clear hfz36_0
          try clear hfz36_1
          try clear hfz40_0
          try clear hfz40_1
          try clear hfz49_0
          try clear hfz49_1
          try clear hfz49_2
          try clear hfz49_3
          try clear hfz49_4
          try clear hfz4_0
          try clear hfz4_1
          try clear hfz51_0
          try clear hfz51_1
          try clear hfz51_2
          try clear hfz51_3
          try clear hfz51_4
          try clear hfz59_0
          try clear hfz59_1
          try clear hfz59_2
          try clear hfz59_3
          try clear hfz59_4
          try clear hfz62_0
          try clear hfz62_1
          try clear hfz68_0
          try clear hfz68_1
          try clear hfz68_2
          try clear hfz68_3
          try clear hfz68_4
          try clear hfz70_0
          try clear hfz70_1
          try clear hfz70_2
          try clear hfz70_3
          try clear hfz70_4
          try clear hfz75_0
          try clear hfz75_1
          try clear p1
          try clear p12
          try clear p18
          try clear p2
          try clear p6
          try clear p64
          try clear p9
          try clear q1
          try clear q12
          try clear q18
          try clear q9
          obtain ⟨x5_2, x124_2, rfl, HA, HK2, HO_5, HO_122, BK126, HB⟩ := hrel
          cases gk with
          | zero => exact absurd HA.out (by simp [token_Scan.l2])
          | succ k2 =>
            have H := HA.out
            clear HA
            simp only [token_Scan.l2] at H
            by_cases c80 : x124_2 < (t156.length : Int)
            · rw [if_pos c80] at H
              have c80b0 : decide (x124_2 < (t156.length : Int)) = true := decide_eq_true c80
              clear c80
              by_cases c81 : 0 ≤ x124_2
              · rw [if_pos c81] at H
                have c81b0 : decide (0 ≤ x124_2) = true := decide_eq_true c81
                clear c81
                by_cases c82 : x124_2 < (t156.length : Int)
                · rw [if_pos c82] at H
                  have c82b0 : decide (x124_2 < (t156.length : Int)) = true := decide_eq_true c82
                  clear c82
                  by_cases c83 : x124_2 < (x5_2.length : Int)
                  · rw [if_pos c83] at H
                    have c83b0 : decide (x124_2 < (x5_2.length : Int)) = true := decide_eq_true c83
                    clear c83
                    obtain ⟨y161, hy161⟩ : ∃ y_ : List (S30), y_ = (x5_2.set (x124_2 : Int).toNat (⟨(rd_T30 x5_2 x124_2).f0, (rd_T30 x5_2 x124_2).f1, (rd_T30 x5_2 x124_2).f2, (⟨(rd_T24 t156 x124_2).f0, (rd_T24 t156 x124_2).f1⟩ : S24)⟩ : S30)) := ⟨_, rfl⟩
                    replace H : (token_Scan.l2 k2 y161 t156 (t156.length : Int) (wrap64 (x124_2 + 1))) = some (r1, r2, r3, r4) := by first | (rw [hy161]; with_reducible exact H) | (have H2_ := (Option.bind_some _ _).symm.trans H; rw [hy161]; with_reducible exact H2_) | (have H2_ := (Option.bind_some _ _).symm.trans H; with_reducible exact H2_) | with_reducible exact H | (rw [hy161]; exact H) | exact H
                    have Ny161 := Aside0.mk hy161
                    clear hy161
                    have H' := Aside0.mk H
                    clear H
                    have p159 : 0 ≤ (x124_2 : Int) := of_decide_eq_true (by first | (with_reducible assumption) | assumption)
                    have q159 : x124_2 < (t156.length : Int) := of_decide_eq_true (by first | (with_reducible assumption) | assumption)
                    obtain ⟨ad159, e159, hx159_0, hx159_1⟩ := at_T24 (Kd.R_reads' HO_122.out).2.2 x124_2 p159 q159
                    cases e159
                    replace p159 := eq_true p159
                    replace q159 := eq_true q159
                    go_wp2_with (first | ((with_reducible refine gate_dst (N := 16) rfl ?_); refine box_event ?hg (N := 16) ?hd (cs := #[.int .i64 0, .int .i64 0]) (t := 24) ?hr ?_; (case hd => rfl); (case hg => rfl); (case hr => first | (go_simp; done) | (go_simp; rfl)); intro gb160 hg w85 hbox hb; have n0_ := Aside0.mk (Kd.R_below (by (with_reducible repeat (first | apply Kd.R_alloc | apply Kd.R_drewN | apply Kd.R_drew)); exact HO_5.out) hb); have n1_ := Aside0.mk (Kd.R_below (Kd.R_elderB (by (with_reducible repeat (first | apply Kd.R_alloc | apply Kd.R_drewN | apply Kd.R_drew)); exact HO_122.out) gb160 (Nat.le_of_eq hg.symm)) hb); have n2_ := Aside0.mk (blk_below (g := gb126) (o := .cells #[.int .i64 x127000_4, .int .i64 x127001_4] 24 (0, 0)) (by (with_reducible repeat (first | refine blk_drewN ?_ _ | refine blk_drew ?_ | refine blk_alloc ?_ _)); exact BK126.out) hb); have n3_ := Aside0.mk (below_step (by repeat (first | (with_reducible first | exact HB.out | apply below_alloc | apply pw_below_drewN | apply below_drew1 | refine below_set ?_ GE126.out) | exact HB.out)) hb); have n4_ := Aside0.mk (hbox); have n5_ := Aside0.mk ((by rw [hg]; exact (below_size (by repeat (first | (with_reducible first | exact HB.out | apply below_alloc | apply pw_below_drewN | apply below_drew1 | refine below_set ?_ GE126.out) | exact HB.out))) : w.heap.size ≤ gb160)); have n6_ := Aside0.mk ((by rw [hg]; exact (below_size (by repeat (first | (with_reducible first | exact HB.out | apply below_alloc | apply pw_below_drewN | apply below_drew1 | refine below_set ?_ GE126.out) | exact HB.out))) : w.heap.size ≤ gb160)); have n7_ := Aside0.mk ((by rw [hg]; exact Nat.ne_of_lt (blk_lt (g := gb126) (o := .cells #[.int .i64 x127000_4, .int .i64 x127001_4] 24 (0, 0)) (by (with_reducible repeat (first | refine blk_drewN ?_ _ | refine blk_drew ?_ | refine blk_alloc ?_ _)); exact BK126.out)) : gb126 ≠ gb160)); have n8_ := Aside0.mk ((by rw [hg]; exact Nat.ne_of_gt (blk_lt (g := gb126) (o := .cells #[.int .i64 x127000_4, .int .i64 x127001_4] 24 (0, 0)) (by (with_reducible repeat (first | refine blk_drewN ?_ _ | refine blk_drew ?_ | refine blk_alloc ?_ _)); exact BK126.out)) : gb160 ≠ gb126)); clear HO_5; clear HO_122; clear BK126; clear HB; have HO_5 := n0_; have HO_122 := n1_; have BK126 := n2_; have HB := n3_; have BK160 := n4_; have GW160 := n5_; have GE160 := n6_; have NB126_160 := n7_; have NB160_126 := n8_; clear n0_ n1_ n2_ n3_ n4_ n5_ n6_ n7_ n8_; clear hb hbox hg; have hnb86 := NB160_126.out; have hnc86 := NB126_160.out; have hcz87_0 : w85.cell? ⟨gb160, 0, none⟩ = some (.int .i64 0) := (blk_cell BK160.out 0).trans rfl; have hcz87_1 : w85.cell? ⟨gb160, 1, none⟩ = some (.int .i64 0) := (blk_cell BK160.out 1).trans rfl; have hfz87_0 := blk_frozen BK160.out 0; have hfz87_1 := blk_frozen BK160.out 1) | ((with_reducible refine gate_store (t := 24) (p := 16) rfl ?_); refine store_event (t := 24) (p := 16) (v := ?vo_w88) (w1 := ((w85.setCell ⟨gb160, 0, none⟩ (.int .i64 ((rd_T24 t156 x124_2).f0))).setCell ⟨gb160, 1, none⟩ (.int .i64 ((rd_T24 t156 x124_2).f1)))) ?hg ?ho ?hn ?hr ?_; (case ho => rfl); (case hg => rfl); (case hn => rfl); (case hr => first | (go_simp; done) | (go_simp; rfl)); intro w88 hw; have n0_ : Aside0 (Kd.R k30 30 w88 w.heap.size (fun _ => True) u5 x5_2) := ⟨(by rw [hw]; exact (by (with_reducible repeat (first | apply Kd.R_alloc | apply Kd.R_drewN | apply Kd.R_drew)); exact Kd.R_mono (Kd.R_far (p := ⟨gb160, 1, none⟩) (Kd.R_far (p := ⟨gb160, 0, none⟩) (Kd.R_types HO_5.out BK160.out (by decide)) (fun _ hk => hk.2) (.int .i64 ((rd_T24 t156 x124_2).f0))) (fun _ hk => hk.2) (.int .i64 ((rd_T24 t156 x124_2).f1))) (fun _ hk => trivial)))⟩; have n1_ : Aside0 (Kd.R k24 24 w88 w.heap.size (fun k_ => k_ ≠ gb126 ∧ k_ ≠ gb160) (.slice (some ad159) t156.length co79) t156) := ⟨(by rw [hw]; exact (by (with_reducible repeat (first | apply Kd.R_alloc | apply Kd.R_drewN | apply Kd.R_drew)); exact Kd.R_mono (Kd.R_far (p := ⟨gb160, 1, none⟩) (Kd.R_far (p := ⟨gb160, 0, none⟩) (Kd.R_mono HO_122.out (fun k_ hk => (⟨hk, hk.2⟩ : _ ∧ k_ ≠ gb160))) (fun _ hk => hk.2) (.int .i64 ((rd_T24 t156 x124_2).f0))) (fun _ hk => hk.2) (.int .i64 ((rd_T24 t156 x124_2).f1))) (fun _ hk => ⟨hk.1.1, hk.1.2⟩)))⟩; have n2_ : Aside0 (w88.heap[gb126]? = some (.cells #[.int .i64 x127000_4, .int .i64 x127001_4] 24 (0, 0))) := ⟨(by rw [hw]; exact (by (with_reducible repeat (first | refine blk_drewN ?_ _ | refine blk_drew ?_ | refine blk_alloc ?_ _)); refine blk_far ?_ NB126_160.out _; (with_reducible repeat (first | refine blk_drewN ?_ _ | refine blk_drew ?_ | refine blk_alloc ?_ _)); refine blk_far ?_ NB126_160.out _; (with_reducible repeat (first | refine blk_drewN ?_ _ | refine blk_drew ?_ | refine blk_alloc ?_ _)); exact BK126.out))⟩; have n3_ : Aside0 (w88.heap[gb160]? = some (.cells #[.int .i64 ((rd_T24 t156 x124_2).f0), .int .i64 ((rd_T24 t156 x124_2).f1)] 24 (0, 0))) := ⟨(by rw [hw]; exact (by (with_reducible repeat (first | refine blk_drewN ?_ _ | refine blk_drew ?_ | refine blk_alloc ?_ _)); refine blk_put (cs := #[.int .i64 ((rd_T24 t156 x124_2).f0), .int .i64 0]) ?_ 1 _ rfl; (with_reducible repeat (first | refine blk_drewN ?_ _ | refine blk_drew ?_ | refine blk_alloc ?_ _)); refine blk_put (cs := #[.int .i64 0, .int .i64 0]) ?_ 0 _ rfl; (with_reducible repeat (first | refine blk_drewN ?_ _ | refine blk_drew ?_ | refine blk_alloc ?_ _)); exact BK160.out))⟩; have n4_ : Aside0 (Below w.heap.size w w88) := ⟨(by rw [hw]; exact (by repeat (first | (with_reducible first | exact HB.out | apply below_alloc | apply pw_below_drewN | apply below_drew1 | refine below_set ?_ GE126.out | refine below_set ?_ GE160.out) | exact HB.out)))⟩; clear hw; clear HO_5; clear HO_122; clear BK126; clear BK160; clear HB; have HO_5 := n0_; have HO_122 := n1_; have BK126 := n2_; have BK160 := n3_; have HB := n4_; clear n0_ n1_ n2_ n3_ n4_; have hcz89_0 : w88.cell? ⟨gb160, 0, none⟩ = some (.int .i64 ((rd_T24 t156 x124_2).f0)) := (blk_cell BK160.out 0).trans rfl; have hcz89_1 : w88.cell? ⟨gb160, 1, none⟩ = some (.int .i64 ((rd_T24 t156 x124_2).f1)) := (blk_cell BK160.out 1).trans rfl; have hfz89_0 := blk_frozen BK160.out 0; have hfz89_1 := blk_frozen BK160.out 1; have p84 : 0 ≤ (x124_2 : Int) := of_decide_eq_true (by first | (with_reducible assumption) | assumption); have q84 : (x124_2 : Int) < ((x5_2.length : Int) : Int) := of_decide_eq_true (by first | (with_reducible assumption) | assumption); obtain ⟨go84, co84, eo84, gb84, gl84, cl84, HG84⟩ := Kd.R_form HO_5.out (by omega); (first | cases eo84 | (injection eo84 with ea_ en_ ec_; (first | subst ea_ | (injection ea_ with ea_; subst ea_)); subst ec_; clear en_)); have GB84 := Aside0.mk gb84; have GG84 := Aside0.mk HG84; clear gb84 gl84 HG84; obtain ⟨ce84, hcl84, hM84, hcc84, hfr84⟩ := Kd.R_elem HO_5.out z30 (x124_2 : Int) p84 q84; obtain rfl := k30_openM hM84; have hx84_0 : w88.cell? ⟨go84, (x124_2 : Int).toNat * 5, none⟩ = some (.int .i64 ((rd_T30 x5_2 x124_2).f0)) := hcc84 0 _ rfl; have hx84_1 : w88.cell? ⟨go84, (x124_2 : Int).toNat * 5 + 1, none⟩ = some (.string ((rd_T30 x5_2 x124_2).f1)) := hcc84 1 _ rfl; have hx84_2 : w88.cell? ⟨go84, (x124_2 : Int).toNat * 5 + 2, none⟩ = some (.int .u16 ((rd_T30 x5_2 x124_2).f2)) := hcc84 2 _ rfl; have hx84_3 : w88.cell? ⟨go84, (x124_2 : Int).toNat * 5 + 3, none⟩ = some (.int .i64 ((rd_T30 x5_2 x124_2).f3.f0)) := hcc84 3 _ rfl; have hx84_4 : w88.cell? ⟨go84, (x124_2 : Int).toNat * 5 + 4, none⟩ = some (.int .i64 ((rd_T30 x5_2 x124_2).f3.f1)) := hcc84 4 _ rfl; have hf84_0 : w88.frozen? ⟨go84, (x124_2 : Int).toNat * 5, none⟩ = false := hfr84 0; have hf84_1 : w88.frozen? ⟨go84, (x124_2 : Int).toNat * 5 + 1, none⟩ = false := hfr84 1; have hf84_2 : w88.frozen? ⟨go84, (x124_2 : Int).toNat * 5 + 2, none⟩ = false := hfr84 2; have hf84_3 : w88.frozen? ⟨go84, (x124_2 : Int).toNat * 5 + 3, none⟩ = false := hfr84 3; have hf84_4 : w88.frozen? ⟨go84, (x124_2 : Int).toNat * 5 + 4, none⟩ = false := hfr84 4; clear hcl84 hcc84 hfr84 hM84; replace p84 := eq_true p84; replace q84 := eq_true q84; have HX90 := Aside0.mk (show Kd.R k30 30 w88 w.heap.size (fun _ => True) (.slice (some ⟨go84, 0, none⟩) x5_2.length co84) x5_2 from (by (with_reducible repeat (first | apply Kd.R_alloc | apply Kd.R_drewN | apply Kd.R_drew)); exact HO_5.out)); obtain ⟨ce90, hcl90, hM90, hcc90, hfr90⟩ := Kd.R_elem HX90.out z30 (x124_2 : Int) (of_decide_eq_true (by first | (with_reducible assumption) | assumption)) (by have h_ : (x124_2 : Int) < ((x5_2.length : Int) : Int) := of_decide_eq_true (by first | (with_reducible assumption) | assumption); first | exact h_ | (have e_ := (Kd.R_reads' HO_5.out).1; omega) | simpa using h_); obtain rfl := k30_openM hM90; have HP90 := Kd.R_seg HX90.out (x124_2 : Int) (of_decide_eq_true (by first | (with_reducible assumption) | assumption)) (by have h_ : (x124_2 : Int) < ((x5_2.length : Int) : Int) := of_decide_eq_true (by first | (with_reducible assumption) | assumption); first | exact h_ | (have e_ := (Kd.R_reads' HO_5.out).1; omega) | simpa using h_) (seg := [.int .i64 ((rd_T24 t156 x124_2).f0), .int .i64 ((rd_T24 t156 x124_2).f1)]) (j := 3) hcl90 hcc90 (show 5 ≤ 5 from by decide) (x' := (⟨(rd_T30 x5_2 x124_2).f0, (rd_T30 x5_2 x124_2).f1, (rd_T30 x5_2 x124_2).f2, (⟨(rd_T24 t156 x124_2).f0, (rd_T24 t156 x124_2).f1⟩ : S24)⟩ : S30)) (k30_mkM _ _ _ (⟨(rd_T30 x5_2 x124_2).f0, (rd_T30 x5_2 x124_2).f1, (rd_T30 x5_2 x124_2).f2, (⟨(rd_T24 t156 x124_2).f0, (rd_T24 t156 x124_2).f1⟩ : S24)⟩ : S30) ) (fun _ hk => hk); have hx90_3 := hcc90 3 _ rfl; (try simp only [show (k30).sz = 5 from rfl, Nat.mul_one, Nat.add_zero] at hx90_3); have hf90_3 := hfr90 3; (try simp only [show (k30).sz = 5 from rfl, Nat.mul_one, Nat.add_zero] at hf90_3); have hx90_4 := hcc90 4 _ rfl; (try simp only [show (k30).sz = 5 from rfl, Nat.mul_one, Nat.add_zero] at hx90_4); have hf90_4 := hfr90 4; (try simp only [show (k30).sz = 5 from rfl, Nat.mul_one, Nat.add_zero] at hf90_4); clear hcl90 hcc90 hfr90 hM90) | ((with_reducible refine gate_store (t := 24) (p := 133) rfl ?_); refine store_event (t := 24) (p := 133) (v := ?vo_w91) (w1 := ((w88.setCell ⟨go84, (x124_2 : Int).toNat * 5 + 3, none⟩ (.int .i64 ((rd_T24 t156 x124_2).f0))).setCell ⟨go84, (x124_2 : Int).toNat * 5 + 4, none⟩ (.int .i64 ((rd_T24 t156 x124_2).f1)))) ?hg ?ho ?hn ?hr ?_; (case ho => rfl); (case hg => rfl); (case hn => rfl); (case hr => first | (go_simp; done) | (go_simp; rfl)); intro w91 hw; have hg : w88.grownBy w91 (some go84) := (by rw [hw]; exact HP90.2); have hp_ : Kd.R k30 30 w91 w.heap.size (fun _ => True) (.slice (some ⟨go84, 0, none⟩) x5_2.length co84) y161 := (by rw [hw, Ny161.out]; exact HP90.1); clear HP90; have n0_ := Aside0.mk (hp_); have n1_ := Aside0.mk (Kd.R_over' (v := (.slice (some ⟨go84, 0, none⟩) x5_2.length co84)) (by (with_reducible repeat (first | apply Kd.R_alloc | apply Kd.R_drewN | apply Kd.R_drew)); exact HO_122.out) (Kd.R_typed HO_5.out) (by decide) hg); have n2_ := Aside0.mk (blk_grown (g := gb126) (o := .cells #[.int .i64 x127000_4, .int .i64 x127001_4] 24 (0, 0)) (by (with_reducible repeat (first | refine blk_drewN ?_ _ | refine blk_drew ?_ | refine blk_alloc ?_ _)); exact BK126.out) hg (Kd.R_ne HO_5.out BK126.out (by decide))); have n3_ := Aside0.mk (blk_grown (g := gb160) (o := .cells #[.int .i64 ((rd_T24 t156 x124_2).f0), .int .i64 ((rd_T24 t156 x124_2).f1)] 24 (0, 0)) (by (with_reducible repeat (first | refine blk_drewN ?_ _ | refine blk_drew ?_ | refine blk_alloc ?_ _)); exact BK160.out) hg (Kd.R_ne HO_5.out BK160.out (by decide))); have n4_ := Aside0.mk ((by rw [hw]; exact below_set (below_set (HB.out) GB84.out) GB84.out : Below w.heap.size w w91)); clear HO_5; clear HO_122; clear BK126; clear BK160; clear HB; have HO_5 := n0_; have HO_122 := n1_; have BK126 := n2_; have BK160 := n3_; have HB := n4_; clear n0_ n1_ n2_ n3_ n4_; clear hg hw hp_))
                    go_roundg k2
                    case measure => have := HJ4.out; have := HK2.out; omega
                    case rel => exact ⟨(y161), (wrap64 (x124_2 + 1)), (by first | rfl | (simp; done) | (simp [*]; done) | (simp [isEmpty_ne]; done)), H', ⟨by have := HJ4.out; have := HK2.out; omega⟩, ⟨by (with_reducible repeat (first | apply Kd.R_alloc | apply Kd.R_drewN | apply Kd.R_drew)); exact HO_5.out⟩, ⟨by (with_reducible repeat (first | apply Kd.R_alloc | apply Kd.R_drewN | apply Kd.R_drew)); exact Kd.R_mono HO_122.out (fun _ hk => hk.1)⟩, ⟨by (with_reducible repeat (first | refine blk_drewN ?_ _ | refine blk_drew ?_ | refine blk_alloc ?_ _)); exact BK126.out⟩, ⟨by repeat (first | (with_reducible first | exact HB.out | apply below_alloc | apply pw_below_drewN | apply below_drew1 | refine below_set ?_ GE126.out | refine below_set ?_ GE160.out) | exact HB.out)⟩⟩
                  · rw [if_neg c83] at H
                    exact absurd H (by simp)
                · rw [if_neg c82] at H
                  exact absurd H (by simp)
              · rw [if_neg c81] at H
                exact absurd H (by simp)
            · rw [if_neg c80] at H
              have c80b0 : decide (x124_2 < (t156.length : Int)) = false := decide_eq_false c80
              clear c80
              simp only [Option.some.injEq, Prod.mk.injEq] at H
              obtain ⟨rfl, rfl, rfl, rfl⟩ := H
              have hcz92_0 : wr.cell? ⟨gb126, 0, none⟩ = some (.int .i64 x127000_4) := (blk_cell BK126.out 0).trans rfl
              have hcz92_1 : wr.cell? ⟨gb126, 1, none⟩ = some (.int .i64 x127001_4) := (blk_cell BK126.out 1).trans rfl
              have hfz92_0 := blk_frozen BK126.out 0
              have hfz92_1 := blk_frozen BK126.out 1
              go_wp2
              (try dsimp only [Exit.noGoto])
              refine bodyPost_ret (results_list (rs := [.tmp 2, .cell 3 24, .tmp 4]) rfl (by simp) (.tmp (.cell gb126 24 #[.int .i64 0, .int .i64 0] (0, 0) _ rfl (by (with_reducible repeat (first | refine blk_drewN ?_ _ | refine blk_drew ?_ | refine blk_alloc ?_ _)); refine blk_put (cs := #[.int .i64 0, .int .i64 x127001_4]) ?_ 1 _ rfl; (with_reducible repeat (first | refine blk_drewN ?_ _ | refine blk_drew ?_ | refine blk_alloc ?_ _)); refine blk_put (cs := #[.int .i64 x127000_4, .int .i64 x127001_4]) ?_ 0 _ rfl; (with_reducible repeat (first | refine blk_drewN ?_ _ | refine blk_drew ?_ | refine blk_alloc ?_ _)); exact BK126.out) Try.underlying24 rfl (by kernel_rfl) (.tmp .nil)))) rfl ?_
              exact ⟨_, by first | rfl | (simp [errW_none, errW_some] <;> rfl) | (simp [*, errW_none, errW_some] <;> rfl), by (with_reducible repeat (first | apply Kd.R_alloc | apply Kd.R_drewN | apply Kd.R_drew)); exact Kd.R_mono (Kd.R_far (p := ⟨gb126, 1, none⟩) (Kd.R_far (p := ⟨gb126, 0, none⟩) (Kd.R_types HO_5.out BK126.out (by decide)) (fun _ hk => hk.2) (.int .i64 0)) (fun _ hk => hk.2) (.int .i64 0)) (fun _ hk => trivial), by repeat (first | (with_reducible first | exact HB.out | apply below_alloc | apply pw_below_drewN | apply below_drew1 | refine below_set ?_ GE126.out) | exact HB.out)⟩

end Go.Proofs.Ytembdahclmffjaa.P
