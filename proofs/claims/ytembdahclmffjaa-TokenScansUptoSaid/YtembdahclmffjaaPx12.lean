/- Printed by a program of this session (it turns the kit's print): see wip/myprint. -/
import Derived.Test.YtembdahclmffjaaPx0
import Derived.Test.YtembdahclmffjaaPx8
import Derived.Test.YtembdahclmffjaaPx11
namespace Go.Proofs.Ytembdahclmffjaa.P
open Go.RowKit Go.Proofs.YtembdahclmffjaaW.PrintWords Go.Proofs.YtembdahclmffjaaW.PrintLast Go.Proofs.YtembdahclmffjaaW.PrintMore Go.Proofs.Ytembdahclmffjaa.Mine
attribute [local go_sem] max2_int min2_int max_two min_two max_three min_three max_four min_four   -- for this text's walks alone
set_option linter.unusedVariables false
set_option linter.unusedSimpArgs false

/-! ### wispref09_Scan: function 10 -/
mutual
def wispref09_Scan.l0 : Nat → ByteArray → List (S30) → Int → Int → Int → Option ((List (S30)) × Int × Int × Int)
  | 0, _, _, _, _, _ => none
  | k + 1, x0, x5, x6, x7, x8 => if x8 < (x0.size : Int) then (if 0 ≤ x8 then ((wispref09_blank.f (bt x0 x8)).bind fun t226 => (if t226 = true then (wispref09_Scan.j1 k x0 x5 x6 x7 (wrap64 (x8 + 1)) x8) else ((wispref09_letter.f (bt x0 x8)).bind fun t227 => (if t227 = true then ((wispref09_word.f k x0 x8).bind fun t228 => (if x8 ≤ t228 then (if t228 ≤ (x0.size : Int) then (if (x0.extract (x8 : Int).toNat (t228 : Int).toNat).toList = ([92] : List UInt8) then ((wispref09_behind.f k x0 t228 10).bind fun t229 => (if t229 < 0 then (wispref09_Scan.j1 k x0 x5 x6 x7 (x0.size : Int) x8) else (wispref09_Scan.j1 k x0 x5 x6 x7 t229 x8))) else (if (x0.extract (x8 : Int).toNat (t228 : Int).toNat).toList = ([40] : List UInt8) then ((wispref09_behind.f k x0 t228 41).bind fun t230 => (if t230 < 0 then (some (([] : List (S30)), x6, wrap64 ((wrap64 (x8 - x7)) + 1), 92)) else (wispref09_Scan.j1 k x0 x5 x6 x7 t230 x8))) else ((wispref09_token.f k (x0.extract (x8 : Int).toNat (t228 : Int).toNat) x6 (wrap64 ((wrap64 (x8 - x7)) + 1))).bind fun bt231 => (if bt231.2.2.2.2.2 = 0 then (if x5.length < 2932031007402 then (wispref09_Scan.j1 k x0 (x5 ++ [(⟨bt231.1, bt231.2.1, bt231.2.2.1, (⟨bt231.2.2.2.1, bt231.2.2.2.2.1⟩ : S24)⟩ : S30)]) x6 x7 t228 x8) else (none)) else (some (([] : List (S30)), x6, wrap64 ((wrap64 (x8 - x7)) + 1), bt231.2.2.2.2.2)))))) else (none)) else (none))) else (some (([] : List (S30)), x6, wrap64 ((wrap64 (x8 - x7)) + 1), 91)))))) else (none)) else (some (x5, 0, 0, 0))
def wispref09_Scan.j1 : Nat → ByteArray → List (S30) → Int → Int → Int → Int → Option ((List (S30)) × Int × Int × Int)
  | 0, _, _, _, _, _, _ => none
  | k + 1, x0, x5, x6, x7, x8, x10 => wispref09_Scan.l1 k x0 x5 x6 x7 x8 x10
def wispref09_Scan.l1 : Nat → ByteArray → List (S30) → Int → Int → Int → Int → Option ((List (S30)) × Int × Int × Int)
  | 0, _, _, _, _, _, _ => none
  | k + 1, x0, x5, x6, x7, x8, x14 => if x14 < x8 then (if 0 ≤ x14 then (if x14 < (x0.size : Int) then (if (bt x0 x14) = 10 then (wispref09_Scan.l1 k x0 x5 (wrap64 (x6 + 1)) (wrap64 (x14 + 1)) x8 (wrap64 (x14 + 1))) else (wispref09_Scan.l1 k x0 x5 x6 x7 x8 (wrap64 (x14 + 1)))) else (none)) else (none)) else (wispref09_Scan.l0 k x0 x5 x6 x7 x8)
end
def wispref09_Scan.f (k : Nat) (a0 : ByteArray) : Option ((List (S30)) × Int × Int × Int) := if (a0.size : Int) > 65536 then (some (([] : List (S30)), 1, 1, 90)) else (wispref09_Scan.l0 k a0 ([] : List (S30)) 1 0 0)
theorem wispref09_Scan.mono_l : ∀ k, (∀ y0 y1 y2 y3 y4, LeO (wispref09_Scan.l0 k y0 y1 y2 y3 y4) (wispref09_Scan.l0 (k + 1) y0 y1 y2 y3 y4)) ∧ (∀ y0 y1 y2 y3 y4 y5, LeO (wispref09_Scan.j1 k y0 y1 y2 y3 y4 y5) (wispref09_Scan.j1 (k + 1) y0 y1 y2 y3 y4 y5)) ∧ (∀ y0 y1 y2 y3 y4 y5, LeO (wispref09_Scan.l1 k y0 y1 y2 y3 y4 y5) (wispref09_Scan.l1 (k + 1) y0 y1 y2 y3 y4 y5))
  | 0 => ⟨fun _ _ _ _ _ r h => by simp [wispref09_Scan.l0] at h, fun _ _ _ _ _ _ r h => by simp [wispref09_Scan.j1] at h, fun _ _ _ _ _ _ r h => by simp [wispref09_Scan.l1] at h⟩
  | k + 1 => by
    obtain ⟨ih0, ih1, ih2⟩ := wispref09_Scan.mono_l k
    refine ⟨?_, ?_, ?_⟩
    · intro y0 y1 y2 y3 y4
      unfold wispref09_Scan.l0
      repeat' first
      | (with_reducible exact ih0 _ _ _ _ _)
      | (with_reducible exact ih1 _ _ _ _ _ _)
      | (with_reducible exact ih2 _ _ _ _ _ _)
      | (with_reducible exact wispref09_behind.mono _ _ _ _)
      | (with_reducible exact wispref09_token.mono _ _ _ _)
      | (with_reducible exact wispref09_word.mono _ _ _)
      | (with_reducible exact LeO.refl _)
      | (with_reducible exact LeO.none _)
      | (with_reducible refine LeO.ite ?_ ?_)
      | (with_reducible refine LeO.bind ?_ (fun _ => ?_))
      | exact ih0 _ _ _ _ _
      | exact ih1 _ _ _ _ _ _
      | exact ih2 _ _ _ _ _ _
      | exact wispref09_behind.mono _ _ _ _
      | exact wispref09_token.mono _ _ _ _
      | exact wispref09_word.mono _ _ _
      | exact LeO.none _
      | refine LeO.ite ?_ ?_
      | refine LeO.bind ?_ (fun _ => ?_)
    · intro y0 y1 y2 y3 y4 y5
      unfold wispref09_Scan.j1
      repeat' first
      | (with_reducible exact ih0 _ _ _ _ _)
      | (with_reducible exact ih1 _ _ _ _ _ _)
      | (with_reducible exact ih2 _ _ _ _ _ _)
      | (with_reducible exact wispref09_behind.mono _ _ _ _)
      | (with_reducible exact wispref09_token.mono _ _ _ _)
      | (with_reducible exact wispref09_word.mono _ _ _)
      | (with_reducible exact LeO.refl _)
      | (with_reducible exact LeO.none _)
      | (with_reducible refine LeO.ite ?_ ?_)
      | (with_reducible refine LeO.bind ?_ (fun _ => ?_))
      | exact ih0 _ _ _ _ _
      | exact ih1 _ _ _ _ _ _
      | exact ih2 _ _ _ _ _ _
      | exact wispref09_behind.mono _ _ _ _
      | exact wispref09_token.mono _ _ _ _
      | exact wispref09_word.mono _ _ _
      | exact LeO.none _
      | refine LeO.ite ?_ ?_
      | refine LeO.bind ?_ (fun _ => ?_)
    · intro y0 y1 y2 y3 y4 y5
      unfold wispref09_Scan.l1
      repeat' first
      | (with_reducible exact ih0 _ _ _ _ _)
      | (with_reducible exact ih1 _ _ _ _ _ _)
      | (with_reducible exact ih2 _ _ _ _ _ _)
      | (with_reducible exact wispref09_behind.mono _ _ _ _)
      | (with_reducible exact wispref09_token.mono _ _ _ _)
      | (with_reducible exact wispref09_word.mono _ _ _)
      | (with_reducible exact LeO.refl _)
      | (with_reducible exact LeO.none _)
      | (with_reducible refine LeO.ite ?_ ?_)
      | (with_reducible refine LeO.bind ?_ (fun _ => ?_))
      | exact ih0 _ _ _ _ _
      | exact ih1 _ _ _ _ _ _
      | exact ih2 _ _ _ _ _ _
      | exact wispref09_behind.mono _ _ _ _
      | exact wispref09_token.mono _ _ _ _
      | exact wispref09_word.mono _ _ _
      | exact LeO.none _
      | refine LeO.ite ?_ ?_
      | refine LeO.bind ?_ (fun _ => ?_)
theorem wispref09_Scan.mono : ∀ a0 k, LeO (wispref09_Scan.f k a0) (wispref09_Scan.f (k + 1) a0) := by
  intro a0 k
  obtain ⟨ih0, ih1, ih2⟩ := wispref09_Scan.mono_l k
  unfold wispref09_Scan.f
  repeat' first
      | (with_reducible exact ih0 _ _ _ _ _)
      | (with_reducible exact ih1 _ _ _ _ _ _)
      | (with_reducible exact ih2 _ _ _ _ _ _)
      | (with_reducible exact wispref09_behind.mono _ _ _ _)
      | (with_reducible exact wispref09_token.mono _ _ _ _)
      | (with_reducible exact wispref09_word.mono _ _ _)
      | (with_reducible exact LeO.refl _)
      | (with_reducible exact LeO.none _)
      | (with_reducible refine LeO.ite ?_ ?_)
      | (with_reducible refine LeO.bind ?_ (fun _ => ?_))
      | exact ih0 _ _ _ _ _
      | exact ih1 _ _ _ _ _ _
      | exact ih2 _ _ _ _ _ _
      | exact wispref09_behind.mono _ _ _ _
      | exact wispref09_token.mono _ _ _ _
      | exact wispref09_word.mono _ _ _
      | exact LeO.none _
      | refine LeO.ite ?_ ?_
      | refine LeO.bind ?_ (fun _ => ?_)
def wispref09_Scan.T11 : Bool × List (List Nat × List Nat) := (true, [([], []), ([], []), ([], []), ([0, 1, 2], [0, 1, 2]), ([], []), ([3, 4], [3, 4]), ([5], [5]), ([6], [6]), ([6], [6]), ([], []), ([9, 7, 5, 0, 1, 2, 3, 4, 5, 6, 7, 9], [7, 9]), ([8, 10, 0, 1, 2, 3, 4, 5, 6, 7, 8, 9, 10], [8])])
def wispref09_Scan.B11 : List Nat := [0, 0, 0, 7, 0, 31, 63, 127, 127, 0, 767, 2047]
theorem wispref09_Scan.tab11 : rtab .any (opsOf Try.f10 11) = wispref09_Scan.T11 := by kernel_rfl
theorem wispref09_Scan.bits11 : waitsOk wispref09_Scan.T11.2 wispref09_Scan.B11 = true := by kernel_rfl
set_option maxHeartbeats 8000000 in
set_option maxRecDepth 100000 in
theorem wispref09_Scan.calls (k : Nat) (a0 : ByteArray) (r1 : List (S30)) (r2 : Int) (r3 : Int) (r4 : Int) (w : World) (h : wispref09_Scan.f k a0 = some (r1, r2, r3, r4)) :
    Calls Try.prog 10 #[.string a0] w fun e w' => ∃ v0_ : Value, e = .returned (.tuple #[v0_, .agg #[.int .i64 r2, .int .i64 r3], .int .i64 r4]) ∧ Kd.R k30 30 w' w.heap.size (fun _ => True) v0_ r1 ∧ Below w.heap.size w w' := by
  have hu24 := Try.underlying24
  have hu30 := Try.underlying30
  have HB := Aside0.mk (Below.refl w.heap.size w)
  have H : (if (a0.size : Int) > 65536 then (some (([] : List (S30)), 1, 1, 90)) else (wispref09_Scan.l0 k a0 ([] : List (S30)) 1 0 0)) = some (r1, r2, r3, r4) := h
  clear h
  by_cases c2 : (a0.size : Int) > 65536
  · rw [if_pos c2] at H
    have c2b0 : decide (65536 < (a0.size : Int)) = true := decide_eq_true c2
    have c2b1 : decide (65536 < a0.size) = true := decide_eq_true (by omega)
    clear c2
    simp only [Option.some.injEq, Prod.mk.injEq] at H
    obtain ⟨rfl, rfl, rfl, rfl⟩ := H
    go_enter Try.func10, Try.ntmps10
    go_wp2_with (first | ((with_reducible refine gate_dst (N := 3) rfl ?_); refine box_event ?hg (N := 3) ?hd (cs := #[.int .i64 0, .int .i64 0]) (t := 24) ?hr ?_; (case hd => rfl); (case hg => rfl); (case hr => first | (go_simp; done) | (go_simp; rfl)); intro gb224 hg w3 hbox hb; have n0_ := Aside0.mk (below_step (by repeat (first | (with_reducible first | exact HB.out | apply below_alloc | apply pw_below_drewN | apply below_drew1) | exact HB.out)) hb); have n1_ := Aside0.mk (hbox); have n2_ := Aside0.mk ((by rw [hg]; exact (below_size (by repeat (first | (with_reducible first | exact HB.out | apply below_alloc | apply pw_below_drewN | apply below_drew1) | exact HB.out))) : w.heap.size ≤ gb224)); have n3_ := Aside0.mk ((by rw [hg]; exact (below_size (by repeat (first | (with_reducible first | exact HB.out | apply below_alloc | apply pw_below_drewN | apply below_drew1) | exact HB.out))) : w.heap.size ≤ gb224)); clear HB; have HB := n0_; have BK224 := n1_; have GW224 := n2_; have GE224 := n3_; clear n0_ n1_ n2_ n3_; clear hb hbox hg; have hcz4_0 : w3.cell? ⟨gb224, 0, none⟩ = some (.int .i64 0) := (blk_cell BK224.out 0).trans rfl; have hcz4_1 : w3.cell? ⟨gb224, 1, none⟩ = some (.int .i64 0) := (blk_cell BK224.out 1).trans rfl; have hfz4_0 := blk_frozen BK224.out 0; have hfz4_1 := blk_frozen BK224.out 1))
    refine bodyPost_ret (results_list (rs := [.tmp 2, .cell 3 24, .tmp 4]) rfl (by simp) (.tmp (.cell gb224 24 #[.int .i64 1, .int .i64 1] (0, 0) _ rfl (by (with_reducible repeat (first | refine blk_drewN ?_ _ | refine blk_drew ?_ | refine blk_alloc ?_ _)); refine blk_put (cs := #[.int .i64 1, .int .i64 0]) ?_ 1 _ rfl; (with_reducible repeat (first | refine blk_drewN ?_ _ | refine blk_drew ?_ | refine blk_alloc ?_ _)); refine blk_put (cs := #[.int .i64 0, .int .i64 0]) ?_ 0 _ rfl; (with_reducible repeat (first | refine blk_drewN ?_ _ | refine blk_drew ?_ | refine blk_alloc ?_ _)); exact BK224.out) Try.underlying24 rfl (by kernel_rfl) (.tmp .nil)))) rfl ?_
    exact ⟨_, by first | rfl | (simp [errW_none, errW_some] <;> rfl) | (simp [*, errW_none, errW_some] <;> rfl), by first | exact Kd.R_nil _ _ _ _ _ | exact Kd.N_nil _ _ _ _ _ | exact Kd.V_nil _ _ _ _ _ | exact Kd.Q_nil _ _ _ _ _ | exact Kd.S_nil _ _ _ _ _, by repeat (first | (with_reducible first | exact HB.out | apply below_alloc | apply pw_below_drewN | apply below_drew1 | refine below_set ?_ GE224.out) | exact HB.out)⟩
  · rw [if_neg c2] at H
    have c2b0 : decide (65536 < (a0.size : Int)) = false := decide_eq_false c2
    have c2b1 : decide (65536 < a0.size) = false := decide_eq_false (by omega)
    clear c2
    have H' := Aside0.mk H
    clear H
    go_enter Try.func10, Try.ntmps10
    go_wp2_with (first | ((with_reducible refine gate_dst (N := 3) rfl ?_); refine box_event ?hg (N := 3) ?hd (cs := #[.int .i64 0, .int .i64 0]) (t := 24) ?hr ?_; (case hd => rfl); (case hg => rfl); (case hr => first | (go_simp; done) | (go_simp; rfl)); intro gb224 hg w5 hbox hb; have n0_ := Aside0.mk (below_step (by repeat (first | (with_reducible first | exact HB.out | apply below_alloc | apply pw_below_drewN | apply below_drew1) | exact HB.out)) hb); have n1_ := Aside0.mk (hbox); have n2_ := Aside0.mk ((by rw [hg]; exact (below_size (by repeat (first | (with_reducible first | exact HB.out | apply below_alloc | apply pw_below_drewN | apply below_drew1) | exact HB.out))) : w.heap.size ≤ gb224)); have n3_ := Aside0.mk ((by rw [hg]; exact (below_size (by repeat (first | (with_reducible first | exact HB.out | apply below_alloc | apply pw_below_drewN | apply below_drew1) | exact HB.out))) : w.heap.size ≤ gb224)); clear HB; have HB := n0_; have BK224 := n1_; have GW224 := n2_; have GE224 := n3_; clear n0_ n1_ n2_ n3_; clear hb hbox hg))
    go_loopg [5, 6, 7, 8] k (fun kq v5 v6 v7 v8 w' => ∃ (x5_1 : List (S30)) (x6_1 : Int) (x7_1 : Int) (x8_1 : Int) (x225000_1 : Int) (x225001_1 : Int), v6 = .int .i64 x6_1 ∧ v7 = .int .i64 x7_1 ∧ v8 = .int .i64 x8_1 ∧ Aside0 (wispref09_Scan.l0 kq a0 x5_1 x6_1 x7_1 x8_1 = some (r1, r2, r3, r4)) ∧ Aside0 (kq ≤ k) ∧ Aside0 (Kd.R k30 30 w' w.heap.size (fun _ => True) v5 x5_1) ∧ Aside0 (w'.heap[gb224]? = some (.cells #[.int .i64 x225000_1, .int .i64 x225001_1] 24 (0, 0))) ∧ Aside0 (Below w.heap.size w w'))
    case atStart => exact ⟨(([] : List (S30))), (1), (0), (0), (0), (0), (by first | rfl | (simp; done) | (simp [*]; done) | (simp [isEmpty_ne]; done)), (by first | rfl | (simp; done) | (simp [*]; done) | (simp [isEmpty_ne]; done)), (by first | rfl | (simp; done) | (simp [*]; done) | (simp [isEmpty_ne]; done)), H', ⟨Nat.le_refl _⟩, ⟨by first | exact Kd.R_nil _ _ _ _ _ | exact Kd.N_nil _ _ _ _ _ | exact Kd.V_nil _ _ _ _ _ | exact Kd.Q_nil _ _ _ _ _ | exact Kd.S_nil _ _ _ _ _⟩, ⟨by (with_reducible repeat (first | refine blk_drewN ?_ _ | refine blk_drew ?_ | refine blk_alloc ?_ _)); exact BK224.out⟩, ⟨by repeat (first | (with_reducible first | exact HB.out | apply below_alloc | apply pw_below_drewN | apply below_drew1 | refine below_set ?_ GE224.out) | exact HB.out)⟩⟩
    case round =>
      clear H'
      try clear c1
      try clear c2
      try clear c2b0
      try clear c2b1
      try clear p2
      try clear hcz4_0
      try clear hcz4_1
      try clear hfz4_0
      try clear hfz4_1
      obtain ⟨x5_1, x6_1, x7_1, x8_1, x225000_1, x225001_1, rfl, rfl, rfl, HA, HK1, HO_5, BK224, HB⟩ := hrel
      cases gk with
      | zero => exact absurd HA.out (by simp [wispref09_Scan.l0])
      | succ k1 =>
        have H := HA.out
        clear HA
        simp only [wispref09_Scan.l0] at H
        by_cases c6 : x8_1 < (a0.size : Int)
        · rw [if_pos c6] at H
          have c6b0 : decide (x8_1 < (a0.size : Int)) = true := decide_eq_true c6
          clear c6
          have HC7 := Aside0.mk H
          clear H
          go_upto_block 2 with (first | ((with_reducible refine gate_dst (N := 9) rfl ?_); refine box_event ?hg (N := 9) ?hd (cs := #[.int .i64 0, .int .i64 0]) (t := 24) ?hr ?_; (case hd => rfl); (case hg => rfl); (case hr => first | (go_simp; done) | (go_simp; rfl)); intro gb225 hg w8 hbox hb; have n0_ := Aside0.mk (Kd.R_below (by (with_reducible repeat (first | apply Kd.R_alloc | apply Kd.R_drewN | apply Kd.R_drew)); exact HO_5.out) hb); have n1_ := Aside0.mk (blk_below (g := gb224) (o := .cells #[.int .i64 x225000_1, .int .i64 x225001_1] 24 (0, 0)) (by (with_reducible repeat (first | refine blk_drewN ?_ _ | refine blk_drew ?_ | refine blk_alloc ?_ _)); exact BK224.out) hb); have n2_ := Aside0.mk (below_step (by repeat (first | (with_reducible first | exact HB.out | apply below_alloc | apply pw_below_drewN | apply below_drew1 | refine below_set ?_ GE224.out) | exact HB.out)) hb); have n3_ := Aside0.mk (hbox); have n4_ := Aside0.mk ((by rw [hg]; exact (below_size (by repeat (first | (with_reducible first | exact HB.out | apply below_alloc | apply pw_below_drewN | apply below_drew1 | refine below_set ?_ GE224.out) | exact HB.out))) : w.heap.size ≤ gb225)); have n5_ := Aside0.mk ((by rw [hg]; exact (below_size (by repeat (first | (with_reducible first | exact HB.out | apply below_alloc | apply pw_below_drewN | apply below_drew1 | refine below_set ?_ GE224.out) | exact HB.out))) : w.heap.size ≤ gb225)); have n6_ := Aside0.mk ((by rw [hg]; exact Nat.ne_of_lt (blk_lt (g := gb224) (o := .cells #[.int .i64 x225000_1, .int .i64 x225001_1] 24 (0, 0)) (by (with_reducible repeat (first | refine blk_drewN ?_ _ | refine blk_drew ?_ | refine blk_alloc ?_ _)); exact BK224.out)) : gb224 ≠ gb225)); have n7_ := Aside0.mk ((by rw [hg]; exact Nat.ne_of_gt (blk_lt (g := gb224) (o := .cells #[.int .i64 x225000_1, .int .i64 x225001_1] 24 (0, 0)) (by (with_reducible repeat (first | refine blk_drewN ?_ _ | refine blk_drew ?_ | refine blk_alloc ?_ _)); exact BK224.out)) : gb225 ≠ gb224)); clear HO_5; clear BK224; clear HB; have HO_5 := n0_; have BK224 := n1_; have HB := n2_; have BK225 := n3_; have GW225 := n4_; have GE225 := n5_; have NB224_225 := n6_; have NB225_224 := n7_; clear n0_ n1_ n2_ n3_ n4_ n5_ n6_ n7_; clear hb hbox hg; have hnb9 := NB225_224.out; have hnc9 := NB224_225.out; have hcz10_0 : w8.cell? ⟨gb225, 0, none⟩ = some (.int .i64 0) := (blk_cell BK225.out 0).trans rfl; have hcz10_1 : w8.cell? ⟨gb225, 1, none⟩ = some (.int .i64 0) := (blk_cell BK225.out 1).trans rfl; have hfz10_0 := blk_frozen BK225.out 0; have hfz10_1 := blk_frozen BK225.out 1))
          (try simp only [Act.put, List.setIfInBounds_toArray, List.set_cons_zero, List.set_cons_succ])
          go_cut [5, 8] (fun v5 v8 wc => ∃ (kq : Nat) (x5_6 : List (S30)) (x8_6 : Int) (x225000_6 : Int) (x225001_6 : Int), v8 = .int .i64 x8_6 ∧ Aside0 (wispref09_Scan.j1 kq a0 x5_6 x6_1 x7_1 x8_6 x8_1 = some (r1, r2, r3, r4)) ∧ Aside0 (kq ≤ k1) ∧ Aside0 (Kd.R k30 30 wc w.heap.size (fun _ => True) v5 x5_6) ∧ Aside0 (wc.heap[gb224]? = some (.cells #[.int .i64 x225000_6, .int .i64 x225001_6] 24 (0, 0))) ∧ Aside0 (wc.heap[gb225]? = some (.cells #[.int .i64 x6_1, .int .i64 (wrap64 ((wrap64 (x8_1 - x7_1)) + 1))] 24 (0, 0))) ∧ Aside0 (Below w.heap.size w wc))
          case first =>
            have H := HC7.out
            clear HC7
            by_cases c11 : 0 ≤ x8_1
            · rw [if_pos c11] at H
              have c11b0 : decide (0 ≤ x8_1) = true := decide_eq_true c11
              clear c11
              (first | rw [c11b0] | (simp only [i64_w, i32_w]; rw [c11b0]) | skip)
              replace H := Option.bind_eq_some_iff.mp H
              obtain ⟨t226, A130, H⟩ := H
              replace H : (if t226 = true then (wispref09_Scan.j1 k1 a0 x5_1 x6_1 x7_1 (wrap64 (x8_1 + 1)) x8_1) else ((wispref09_letter.f (bt a0 x8_1)).bind fun t227 => (if t227 = true then ((wispref09_word.f k1 a0 x8_1).bind fun t228 => (if x8_1 ≤ t228 then (if t228 ≤ (a0.size : Int) then (if (a0.extract (x8_1 : Int).toNat (t228 : Int).toNat).toList = ([92] : List UInt8) then ((wispref09_behind.f k1 a0 t228 10).bind fun t229 => (if t229 < 0 then (wispref09_Scan.j1 k1 a0 x5_1 x6_1 x7_1 (a0.size : Int) x8_1) else (wispref09_Scan.j1 k1 a0 x5_1 x6_1 x7_1 t229 x8_1))) else (if (a0.extract (x8_1 : Int).toNat (t228 : Int).toNat).toList = ([40] : List UInt8) then ((wispref09_behind.f k1 a0 t228 41).bind fun t230 => (if t230 < 0 then (some (([] : List (S30)), x6_1, wrap64 ((wrap64 (x8_1 - x7_1)) + 1), 92)) else (wispref09_Scan.j1 k1 a0 x5_1 x6_1 x7_1 t230 x8_1))) else ((wispref09_token.f k1 (a0.extract (x8_1 : Int).toNat (t228 : Int).toNat) x6_1 (wrap64 ((wrap64 (x8_1 - x7_1)) + 1))).bind fun bt231 => (if bt231.2.2.2.2.2 = 0 then (if x5_1.length < 2932031007402 then (wispref09_Scan.j1 k1 a0 (x5_1 ++ [(⟨bt231.1, bt231.2.1, bt231.2.2.1, (⟨bt231.2.2.2.1, bt231.2.2.2.2.1⟩ : S24)⟩ : S30)]) x6_1 x7_1 t228 x8_1) else (none)) else (some (([] : List (S30)), x6_1, wrap64 ((wrap64 (x8_1 - x7_1)) + 1), bt231.2.2.2.2.2)))))) else (none)) else (none))) else (some (([] : List (S30)), x6_1, wrap64 ((wrap64 (x8_1 - x7_1)) + 1), 91))))) = some (r1, r2, r3, r4) := H
              have A13 := Aside0.mk A130
              clear A130
              by_cases c14 : t226 = true
              · subst c14
                have H1 : (wispref09_Scan.j1 k1 a0 x5_1 x6_1 x7_1 (wrap64 (x8_1 + 1)) x8_1) = some (r1, r2, r3, r4) := by rw [if_pos rfl] at H; exact H
                clear H
                have H := H1
                clear H1
                have H' := Aside0.mk H
                clear H
                have p12 : 0 ≤ (x8_1 : Int) := of_decide_eq_true (by first | (with_reducible assumption) | assumption)
                have q12 : x8_1 < (a0.size : Int) := of_decide_eq_true (by first | (with_reducible assumption) | assumption)
                have hx12 := bt_at a0 x8_1
                replace p12 := eq_true p12
                replace q12 := eq_true q12
                go_wp2_with (first | ((with_reducible refine gate_callee (f := 26) rfl ?_); refine goesL_ (some 76) rfl rfl Try.func26 (by kernel_rfl) rfl #[.int .u8 (bt a0 x8_1)] rfl (by (try simp only [List.map_toArray, List.map_cons, List.map_nil]); first | done | rfl | (simp only [List.length_drop, List.length_take]; rfl)) ?_; (with_reducible refine (wispref09_blank.calls (bt a0 x8_1) true _ A13.out).mono ?_); rintro e w' ⟨rfl, ⟨nd, rfl⟩⟩; refine ⟨_, rfl, ?_⟩))
                go_meet
                case rel => exact ⟨_, (x5_1), (wrap64 (x8_1 + 1)), (x225000_1), (x225001_1), (by first | rfl | (simp; done) | (simp [*]; done) | (simp [isEmpty_ne]; done)), H', ⟨by have := HK1.out; first | omega | exact Nat.le_refl _⟩, ⟨by (with_reducible repeat (first | apply Kd.R_alloc | apply Kd.R_drewN | apply Kd.R_drew)); exact Kd.R_mono (Kd.R_far (p := ⟨gb225, 1, none⟩) (Kd.R_far (p := ⟨gb225, 0, none⟩) (Kd.R_types HO_5.out BK225.out (by decide)) (fun _ hk => hk.2) (.int .i64 x6_1)) (fun _ hk => hk.2) (.int .i64 (wrap64 ((wrap64 (x8_1 - x7_1)) + 1)))) (fun _ hk => trivial)⟩, ⟨by (with_reducible repeat (first | refine blk_drewN ?_ _ | refine blk_drew ?_ | refine blk_alloc ?_ _)); refine blk_far ?_ NB224_225.out _; (with_reducible repeat (first | refine blk_drewN ?_ _ | refine blk_drew ?_ | refine blk_alloc ?_ _)); refine blk_far ?_ NB224_225.out _; (with_reducible repeat (first | refine blk_drewN ?_ _ | refine blk_drew ?_ | refine blk_alloc ?_ _)); exact BK224.out⟩, ⟨by (with_reducible repeat (first | refine blk_drewN ?_ _ | refine blk_drew ?_ | refine blk_alloc ?_ _)); refine blk_put (cs := #[.int .i64 x6_1, .int .i64 0]) ?_ 1 _ rfl; (with_reducible repeat (first | refine blk_drewN ?_ _ | refine blk_drew ?_ | refine blk_alloc ?_ _)); refine blk_put (cs := #[.int .i64 0, .int .i64 0]) ?_ 0 _ rfl; (with_reducible repeat (first | refine blk_drewN ?_ _ | refine blk_drew ?_ | refine blk_alloc ?_ _)); exact BK225.out⟩, ⟨by repeat (first | (with_reducible first | exact HB.out | apply below_alloc | apply pw_below_drewN | apply below_drew1 | refine below_set ?_ GE224.out | refine below_set ?_ GE225.out) | exact HB.out)⟩⟩
              · replace c14 := Bool.eq_false_iff.mpr c14
                subst c14
                have H1 : ((wispref09_letter.f (bt a0 x8_1)).bind fun t227 => (if t227 = true then ((wispref09_word.f k1 a0 x8_1).bind fun t228 => (if x8_1 ≤ t228 then (if t228 ≤ (a0.size : Int) then (if (a0.extract (x8_1 : Int).toNat (t228 : Int).toNat).toList = ([92] : List UInt8) then ((wispref09_behind.f k1 a0 t228 10).bind fun t229 => (if t229 < 0 then (wispref09_Scan.j1 k1 a0 x5_1 x6_1 x7_1 (a0.size : Int) x8_1) else (wispref09_Scan.j1 k1 a0 x5_1 x6_1 x7_1 t229 x8_1))) else (if (a0.extract (x8_1 : Int).toNat (t228 : Int).toNat).toList = ([40] : List UInt8) then ((wispref09_behind.f k1 a0 t228 41).bind fun t230 => (if t230 < 0 then (some (([] : List (S30)), x6_1, wrap64 ((wrap64 (x8_1 - x7_1)) + 1), 92)) else (wispref09_Scan.j1 k1 a0 x5_1 x6_1 x7_1 t230 x8_1))) else ((wispref09_token.f k1 (a0.extract (x8_1 : Int).toNat (t228 : Int).toNat) x6_1 (wrap64 ((wrap64 (x8_1 - x7_1)) + 1))).bind fun bt231 => (if bt231.2.2.2.2.2 = 0 then (if x5_1.length < 2932031007402 then (wispref09_Scan.j1 k1 a0 (x5_1 ++ [(⟨bt231.1, bt231.2.1, bt231.2.2.1, (⟨bt231.2.2.2.1, bt231.2.2.2.2.1⟩ : S24)⟩ : S30)]) x6_1 x7_1 t228 x8_1) else (none)) else (some (([] : List (S30)), x6_1, wrap64 ((wrap64 (x8_1 - x7_1)) + 1), bt231.2.2.2.2.2)))))) else (none)) else (none))) else (some (([] : List (S30)), x6_1, wrap64 ((wrap64 (x8_1 - x7_1)) + 1), 91)))) = some (r1, r2, r3, r4) := by rw [if_neg (show ¬ (false = true) by decide)] at H; exact H
                clear H
                have H := H1
                clear H1
                replace H := Option.bind_eq_some_iff.mp H
                obtain ⟨t227, A160, H⟩ := H
                replace H : (if t227 = true then ((wispref09_word.f k1 a0 x8_1).bind fun t228 => (if x8_1 ≤ t228 then (if t228 ≤ (a0.size : Int) then (if (a0.extract (x8_1 : Int).toNat (t228 : Int).toNat).toList = ([92] : List UInt8) then ((wispref09_behind.f k1 a0 t228 10).bind fun t229 => (if t229 < 0 then (wispref09_Scan.j1 k1 a0 x5_1 x6_1 x7_1 (a0.size : Int) x8_1) else (wispref09_Scan.j1 k1 a0 x5_1 x6_1 x7_1 t229 x8_1))) else (if (a0.extract (x8_1 : Int).toNat (t228 : Int).toNat).toList = ([40] : List UInt8) then ((wispref09_behind.f k1 a0 t228 41).bind fun t230 => (if t230 < 0 then (some (([] : List (S30)), x6_1, wrap64 ((wrap64 (x8_1 - x7_1)) + 1), 92)) else (wispref09_Scan.j1 k1 a0 x5_1 x6_1 x7_1 t230 x8_1))) else ((wispref09_token.f k1 (a0.extract (x8_1 : Int).toNat (t228 : Int).toNat) x6_1 (wrap64 ((wrap64 (x8_1 - x7_1)) + 1))).bind fun bt231 => (if bt231.2.2.2.2.2 = 0 then (if x5_1.length < 2932031007402 then (wispref09_Scan.j1 k1 a0 (x5_1 ++ [(⟨bt231.1, bt231.2.1, bt231.2.2.1, (⟨bt231.2.2.2.1, bt231.2.2.2.2.1⟩ : S24)⟩ : S30)]) x6_1 x7_1 t228 x8_1) else (none)) else (some (([] : List (S30)), x6_1, wrap64 ((wrap64 (x8_1 - x7_1)) + 1), bt231.2.2.2.2.2)))))) else (none)) else (none))) else (some (([] : List (S30)), x6_1, wrap64 ((wrap64 (x8_1 - x7_1)) + 1), 91))) = some (r1, r2, r3, r4) := H
                have A16 := Aside0.mk A160
                clear A160
                by_cases c17 : t227 = true
                · subst c17
                  have H1 : ((wispref09_word.f k1 a0 x8_1).bind fun t228 => (if x8_1 ≤ t228 then (if t228 ≤ (a0.size : Int) then (if (a0.extract (x8_1 : Int).toNat (t228 : Int).toNat).toList = ([92] : List UInt8) then ((wispref09_behind.f k1 a0 t228 10).bind fun t229 => (if t229 < 0 then (wispref09_Scan.j1 k1 a0 x5_1 x6_1 x7_1 (a0.size : Int) x8_1) else (wispref09_Scan.j1 k1 a0 x5_1 x6_1 x7_1 t229 x8_1))) else (if (a0.extract (x8_1 : Int).toNat (t228 : Int).toNat).toList = ([40] : List UInt8) then ((wispref09_behind.f k1 a0 t228 41).bind fun t230 => (if t230 < 0 then (some (([] : List (S30)), x6_1, wrap64 ((wrap64 (x8_1 - x7_1)) + 1), 92)) else (wispref09_Scan.j1 k1 a0 x5_1 x6_1 x7_1 t230 x8_1))) else ((wispref09_token.f k1 (a0.extract (x8_1 : Int).toNat (t228 : Int).toNat) x6_1 (wrap64 ((wrap64 (x8_1 - x7_1)) + 1))).bind fun bt231 => (if bt231.2.2.2.2.2 = 0 then (if x5_1.length < 2932031007402 then (wispref09_Scan.j1 k1 a0 (x5_1 ++ [(⟨bt231.1, bt231.2.1, bt231.2.2.1, (⟨bt231.2.2.2.1, bt231.2.2.2.2.1⟩ : S24)⟩ : S30)]) x6_1 x7_1 t228 x8_1) else (none)) else (some (([] : List (S30)), x6_1, wrap64 ((wrap64 (x8_1 - x7_1)) + 1), bt231.2.2.2.2.2)))))) else (none)) else (none))) = some (r1, r2, r3, r4) := by rw [if_pos rfl] at H; exact H
                  clear H
                  have H := H1
                  clear H1
                  replace H := Option.bind_eq_some_iff.mp H
                  obtain ⟨t228, A180, H⟩ := H
                  replace H : (if x8_1 ≤ t228 then (if t228 ≤ (a0.size : Int) then (if (a0.extract (x8_1 : Int).toNat (t228 : Int).toNat).toList = ([92] : List UInt8) then ((wispref09_behind.f k1 a0 t228 10).bind fun t229 => (if t229 < 0 then (wispref09_Scan.j1 k1 a0 x5_1 x6_1 x7_1 (a0.size : Int) x8_1) else (wispref09_Scan.j1 k1 a0 x5_1 x6_1 x7_1 t229 x8_1))) else (if (a0.extract (x8_1 : Int).toNat (t228 : Int).toNat).toList = ([40] : List UInt8) then ((wispref09_behind.f k1 a0 t228 41).bind fun t230 => (if t230 < 0 then (some (([] : List (S30)), x6_1, wrap64 ((wrap64 (x8_1 - x7_1)) + 1), 92)) else (wispref09_Scan.j1 k1 a0 x5_1 x6_1 x7_1 t230 x8_1))) else ((wispref09_token.f k1 (a0.extract (x8_1 : Int).toNat (t228 : Int).toNat) x6_1 (wrap64 ((wrap64 (x8_1 - x7_1)) + 1))).bind fun bt231 => (if bt231.2.2.2.2.2 = 0 then (if x5_1.length < 2932031007402 then (wispref09_Scan.j1 k1 a0 (x5_1 ++ [(⟨bt231.1, bt231.2.1, bt231.2.2.1, (⟨bt231.2.2.2.1, bt231.2.2.2.2.1⟩ : S24)⟩ : S30)]) x6_1 x7_1 t228 x8_1) else (none)) else (some (([] : List (S30)), x6_1, wrap64 ((wrap64 (x8_1 - x7_1)) + 1), bt231.2.2.2.2.2)))))) else (none)) else (none)) = some (r1, r2, r3, r4) := H
                  have A18 := Aside0.mk A180
                  clear A180
                  have c19b0 := eq_true (of_decide_eq_true (by first | (with_reducible assumption) | assumption) : 0 ≤ x8_1)
                  by_cases c20 : x8_1 ≤ t228
                  · rw [if_pos c20] at H
                    have c20b0 := eq_true c20
                    have c20b1 : decide (x8_1 ≤ t228) = true := decide_eq_true c20
                    clear c20
                    by_cases c21 : t228 ≤ (a0.size : Int)
                    · rw [if_pos c21] at H
                      have c21b0 := eq_true c21
                      have c21b1 : decide (t228 ≤ (a0.size : Int)) = true := decide_eq_true c21
                      clear c21
                      by_cases c22 : (a0.extract (x8_1 : Int).toNat (t228 : Int).toNat).toList = ([92] : List UInt8)
                      · rw [if_pos c22] at H
                        have c22b0 : ((a0.extract (x8_1 : Int).toNat (t228 : Int).toNat).toList == ([92] : List UInt8)) = true := beq_iff_eq.mpr c22
                        have c22b1 : ((a0.extract (x8_1 : Int).toNat (t228 : Int).toNat).toList != ([92] : List UInt8)) = false := bne_eq_false_iff_eq.mpr c22
                        clear c22
                        replace H := Option.bind_eq_some_iff.mp H
                        obtain ⟨t229, A230, H⟩ := H
                        replace H : (if t229 < 0 then (wispref09_Scan.j1 k1 a0 x5_1 x6_1 x7_1 (a0.size : Int) x8_1) else (wispref09_Scan.j1 k1 a0 x5_1 x6_1 x7_1 t229 x8_1)) = some (r1, r2, r3, r4) := H
                        have A23 := Aside0.mk A230
                        clear A230
                        by_cases c24 : t229 < 0
                        · rw [if_pos c24] at H
                          have c24b0 : decide (t229 < 0) = true := decide_eq_true c24
                          clear c24
                          have H' := Aside0.mk H
                          clear H
                          have p12 : 0 ≤ (x8_1 : Int) := of_decide_eq_true (by first | (with_reducible assumption) | assumption)
                          have q12 : x8_1 < (a0.size : Int) := of_decide_eq_true (by first | (with_reducible assumption) | assumption)
                          have hx12 := bt_at a0 x8_1
                          replace p12 := eq_true p12
                          replace q12 := eq_true q12
                          go_wp2_with (first | ((with_reducible refine gate_callee (f := 26) rfl ?_); refine goesL_ (some 76) rfl rfl Try.func26 (by kernel_rfl) rfl #[.int .u8 (bt a0 x8_1)] rfl (by (try simp only [List.map_toArray, List.map_cons, List.map_nil]); first | done | rfl | (simp only [List.length_drop, List.length_take]; rfl)) ?_; (with_reducible refine (wispref09_blank.calls (bt a0 x8_1) false _ A13.out).mono ?_); rintro e w' ⟨rfl, ⟨nd, rfl⟩⟩; refine ⟨_, rfl, ?_⟩; have p15 : 0 ≤ (x8_1 : Int) := of_decide_eq_true (by first | (with_reducible assumption) | assumption); have q15 : x8_1 < (a0.size : Int) := of_decide_eq_true (by first | (with_reducible assumption) | assumption); have hx15 := bt_at a0 x8_1; replace p15 := eq_true p15; replace q15 := eq_true q15) | ((with_reducible refine gate_callee (f := 27) rfl ?_); refine goesL_ (some 83) rfl rfl Try.func27 (by kernel_rfl) rfl #[.int .u8 (bt a0 x8_1)] rfl (by (try simp only [List.map_toArray, List.map_cons, List.map_nil]); first | done | rfl | (simp only [List.length_drop, List.length_take]; rfl)) ?_; (with_reducible refine (wispref09_letter.calls (bt a0 x8_1) true _ A16.out).mono ?_); rintro e w' ⟨rfl, ⟨nd, rfl⟩⟩; refine ⟨_, rfl, ?_⟩) | ((with_reducible refine gate_callee (f := 28) rfl ?_); refine goesL_ (some 32) rfl rfl Try.func28 (by kernel_rfl) rfl #[.string a0, .int .i64 x8_1] rfl (by (try simp only [List.map_toArray, List.map_cons, List.map_nil]); first | done | rfl | (simp only [List.length_drop, List.length_take]; rfl)) ?_; (with_reducible refine (wispref09_word.calls k1 a0 x8_1 t228 _ A18.out).mono ?_); rintro e w' ⟨rfl, ⟨nd, rfl⟩⟩; refine ⟨_, rfl, ?_⟩) | ((with_reducible refine gate_callee (f := 29) rfl ?_); refine goesL_ (some 59) rfl rfl Try.func29 (by kernel_rfl) rfl #[.string a0, .int .i64 t228, .int .u8 10] rfl (by (try simp only [List.map_toArray, List.map_cons, List.map_nil]); first | done | rfl | (simp only [List.length_drop, List.length_take]; rfl)) ?_; (with_reducible refine (wispref09_behind.calls k1 a0 t228 10 t229 _ A23.out).mono ?_); rintro e w' ⟨rfl, ⟨nd, rfl⟩⟩; refine ⟨_, rfl, ?_⟩))
                          go_meet
                          case rel => exact ⟨_, (x5_1), ((a0.size : Int)), (x225000_1), (x225001_1), (by first | rfl | (simp; done) | (simp [*]; done) | (simp [isEmpty_ne]; done)), H', ⟨by have := HK1.out; first | omega | exact Nat.le_refl _⟩, ⟨by (with_reducible repeat (first | apply Kd.R_alloc | apply Kd.R_drewN | apply Kd.R_drew)); exact Kd.R_mono (Kd.R_far (p := ⟨gb225, 1, none⟩) (Kd.R_far (p := ⟨gb225, 0, none⟩) (Kd.R_types HO_5.out BK225.out (by decide)) (fun _ hk => hk.2) (.int .i64 x6_1)) (fun _ hk => hk.2) (.int .i64 (wrap64 ((wrap64 (x8_1 - x7_1)) + 1)))) (fun _ hk => trivial)⟩, ⟨by (with_reducible repeat (first | refine blk_drewN ?_ _ | refine blk_drew ?_ | refine blk_alloc ?_ _)); refine blk_far ?_ NB224_225.out _; (with_reducible repeat (first | refine blk_drewN ?_ _ | refine blk_drew ?_ | refine blk_alloc ?_ _)); refine blk_far ?_ NB224_225.out _; (with_reducible repeat (first | refine blk_drewN ?_ _ | refine blk_drew ?_ | refine blk_alloc ?_ _)); exact BK224.out⟩, ⟨by (with_reducible repeat (first | refine blk_drewN ?_ _ | refine blk_drew ?_ | refine blk_alloc ?_ _)); refine blk_put (cs := #[.int .i64 x6_1, .int .i64 0]) ?_ 1 _ rfl; (with_reducible repeat (first | refine blk_drewN ?_ _ | refine blk_drew ?_ | refine blk_alloc ?_ _)); refine blk_put (cs := #[.int .i64 0, .int .i64 0]) ?_ 0 _ rfl; (with_reducible repeat (first | refine blk_drewN ?_ _ | refine blk_drew ?_ | refine blk_alloc ?_ _)); exact BK225.out⟩, ⟨by repeat (first | (with_reducible first | exact HB.out | apply below_alloc | apply pw_below_drewN | apply below_drew1 | refine below_set ?_ GE224.out | refine below_set ?_ GE225.out) | exact HB.out)⟩⟩
                        · rw [if_neg c24] at H
                          have c24b0 : decide (t229 < 0) = false := decide_eq_false c24
                          clear c24
                          have H' := Aside0.mk H
                          clear H
                          have p12 : 0 ≤ (x8_1 : Int) := of_decide_eq_true (by first | (with_reducible assumption) | assumption)
                          have q12 : x8_1 < (a0.size : Int) := of_decide_eq_true (by first | (with_reducible assumption) | assumption)
                          have hx12 := bt_at a0 x8_1
                          replace p12 := eq_true p12
                          replace q12 := eq_true q12
                          go_wp2_with (first | ((with_reducible refine gate_callee (f := 26) rfl ?_); refine goesL_ (some 76) rfl rfl Try.func26 (by kernel_rfl) rfl #[.int .u8 (bt a0 x8_1)] rfl (by (try simp only [List.map_toArray, List.map_cons, List.map_nil]); first | done | rfl | (simp only [List.length_drop, List.length_take]; rfl)) ?_; (with_reducible refine (wispref09_blank.calls (bt a0 x8_1) false _ A13.out).mono ?_); rintro e w' ⟨rfl, ⟨nd, rfl⟩⟩; refine ⟨_, rfl, ?_⟩; have p15 : 0 ≤ (x8_1 : Int) := of_decide_eq_true (by first | (with_reducible assumption) | assumption); have q15 : x8_1 < (a0.size : Int) := of_decide_eq_true (by first | (with_reducible assumption) | assumption); have hx15 := bt_at a0 x8_1; replace p15 := eq_true p15; replace q15 := eq_true q15) | ((with_reducible refine gate_callee (f := 27) rfl ?_); refine goesL_ (some 83) rfl rfl Try.func27 (by kernel_rfl) rfl #[.int .u8 (bt a0 x8_1)] rfl (by (try simp only [List.map_toArray, List.map_cons, List.map_nil]); first | done | rfl | (simp only [List.length_drop, List.length_take]; rfl)) ?_; (with_reducible refine (wispref09_letter.calls (bt a0 x8_1) true _ A16.out).mono ?_); rintro e w' ⟨rfl, ⟨nd, rfl⟩⟩; refine ⟨_, rfl, ?_⟩) | ((with_reducible refine gate_callee (f := 28) rfl ?_); refine goesL_ (some 32) rfl rfl Try.func28 (by kernel_rfl) rfl #[.string a0, .int .i64 x8_1] rfl (by (try simp only [List.map_toArray, List.map_cons, List.map_nil]); first | done | rfl | (simp only [List.length_drop, List.length_take]; rfl)) ?_; (with_reducible refine (wispref09_word.calls k1 a0 x8_1 t228 _ A18.out).mono ?_); rintro e w' ⟨rfl, ⟨nd, rfl⟩⟩; refine ⟨_, rfl, ?_⟩) | ((with_reducible refine gate_callee (f := 29) rfl ?_); refine goesL_ (some 59) rfl rfl Try.func29 (by kernel_rfl) rfl #[.string a0, .int .i64 t228, .int .u8 10] rfl (by (try simp only [List.map_toArray, List.map_cons, List.map_nil]); first | done | rfl | (simp only [List.length_drop, List.length_take]; rfl)) ?_; (with_reducible refine (wispref09_behind.calls k1 a0 t228 10 t229 _ A23.out).mono ?_); rintro e w' ⟨rfl, ⟨nd, rfl⟩⟩; refine ⟨_, rfl, ?_⟩))
                          go_meet
                          case rel => exact ⟨_, (x5_1), (t229), (x225000_1), (x225001_1), (by first | rfl | (simp; done) | (simp [*]; done) | (simp [isEmpty_ne]; done)), H', ⟨by have := HK1.out; first | omega | exact Nat.le_refl _⟩, ⟨by (with_reducible repeat (first | apply Kd.R_alloc | apply Kd.R_drewN | apply Kd.R_drew)); exact Kd.R_mono (Kd.R_far (p := ⟨gb225, 1, none⟩) (Kd.R_far (p := ⟨gb225, 0, none⟩) (Kd.R_types HO_5.out BK225.out (by decide)) (fun _ hk => hk.2) (.int .i64 x6_1)) (fun _ hk => hk.2) (.int .i64 (wrap64 ((wrap64 (x8_1 - x7_1)) + 1)))) (fun _ hk => trivial)⟩, ⟨by (with_reducible repeat (first | refine blk_drewN ?_ _ | refine blk_drew ?_ | refine blk_alloc ?_ _)); refine blk_far ?_ NB224_225.out _; (with_reducible repeat (first | refine blk_drewN ?_ _ | refine blk_drew ?_ | refine blk_alloc ?_ _)); refine blk_far ?_ NB224_225.out _; (with_reducible repeat (first | refine blk_drewN ?_ _ | refine blk_drew ?_ | refine blk_alloc ?_ _)); exact BK224.out⟩, ⟨by (with_reducible repeat (first | refine blk_drewN ?_ _ | refine blk_drew ?_ | refine blk_alloc ?_ _)); refine blk_put (cs := #[.int .i64 x6_1, .int .i64 0]) ?_ 1 _ rfl; (with_reducible repeat (first | refine blk_drewN ?_ _ | refine blk_drew ?_ | refine blk_alloc ?_ _)); refine blk_put (cs := #[.int .i64 0, .int .i64 0]) ?_ 0 _ rfl; (with_reducible repeat (first | refine blk_drewN ?_ _ | refine blk_drew ?_ | refine blk_alloc ?_ _)); exact BK225.out⟩, ⟨by repeat (first | (with_reducible first | exact HB.out | apply below_alloc | apply pw_below_drewN | apply below_drew1 | refine below_set ?_ GE224.out | refine below_set ?_ GE225.out) | exact HB.out)⟩⟩
                      · rw [if_neg c22] at H
                        have c22b0 : ((a0.extract (x8_1 : Int).toNat (t228 : Int).toNat).toList == ([92] : List UInt8)) = false := beq_eq_false_iff_ne.mpr c22
                        have c22b1 : ((a0.extract (x8_1 : Int).toNat (t228 : Int).toNat).toList != ([92] : List UInt8)) = true := bne_iff_ne.mpr c22
                        by_cases c25 : (a0.extract (x8_1 : Int).toNat (t228 : Int).toNat).toList = ([40] : List UInt8)
                        · rw [if_pos c25] at H
                          have c25b0 : ((a0.extract (x8_1 : Int).toNat (t228 : Int).toNat).toList == ([40] : List UInt8)) = true := beq_iff_eq.mpr c25
                          have c25b1 : ((a0.extract (x8_1 : Int).toNat (t228 : Int).toNat).toList != ([40] : List UInt8)) = false := bne_eq_false_iff_eq.mpr c25
                          clear c25
                          replace H := Option.bind_eq_some_iff.mp H
                          obtain ⟨t230, A260, H⟩ := H
                          replace H : (if t230 < 0 then (some (([] : List (S30)), x6_1, wrap64 ((wrap64 (x8_1 - x7_1)) + 1), 92)) else (wispref09_Scan.j1 k1 a0 x5_1 x6_1 x7_1 t230 x8_1)) = some (r1, r2, r3, r4) := H
                          have A26 := Aside0.mk A260
                          clear A260
                          by_cases c27 : t230 < 0
                          · rw [if_pos c27] at H
                            have c27b0 : decide (t230 < 0) = true := decide_eq_true c27
                            clear c27
                            simp only [Option.some.injEq, Prod.mk.injEq] at H
                            obtain ⟨rfl, rfl, rfl, rfl⟩ := H
                            have p12 : 0 ≤ (x8_1 : Int) := of_decide_eq_true (by first | (with_reducible assumption) | assumption)
                            have q12 : x8_1 < (a0.size : Int) := of_decide_eq_true (by first | (with_reducible assumption) | assumption)
                            have hx12 := bt_at a0 x8_1
                            replace p12 := eq_true p12
                            replace q12 := eq_true q12
                            try go_wp2_with (first | ((with_reducible refine gate_callee (f := 26) rfl ?_); refine goesL_ (some 76) rfl rfl Try.func26 (by kernel_rfl) rfl #[.int .u8 (bt a0 x8_1)] rfl (by (try simp only [List.map_toArray, List.map_cons, List.map_nil]); first | done | rfl | (simp only [List.length_drop, List.length_take]; rfl)) ?_; (with_reducible refine (wispref09_blank.calls (bt a0 x8_1) false _ A13.out).mono ?_); rintro e w' ⟨rfl, ⟨nd, rfl⟩⟩; refine ⟨_, rfl, ?_⟩; have p15 : 0 ≤ (x8_1 : Int) := of_decide_eq_true (by first | (with_reducible assumption) | assumption); have q15 : x8_1 < (a0.size : Int) := of_decide_eq_true (by first | (with_reducible assumption) | assumption); have hx15 := bt_at a0 x8_1; replace p15 := eq_true p15; replace q15 := eq_true q15) | ((with_reducible refine gate_callee (f := 27) rfl ?_); refine goesL_ (some 83) rfl rfl Try.func27 (by kernel_rfl) rfl #[.int .u8 (bt a0 x8_1)] rfl (by (try simp only [List.map_toArray, List.map_cons, List.map_nil]); first | done | rfl | (simp only [List.length_drop, List.length_take]; rfl)) ?_; (with_reducible refine (wispref09_letter.calls (bt a0 x8_1) true _ A16.out).mono ?_); rintro e w' ⟨rfl, ⟨nd, rfl⟩⟩; refine ⟨_, rfl, ?_⟩) | ((with_reducible refine gate_callee (f := 28) rfl ?_); refine goesL_ (some 32) rfl rfl Try.func28 (by kernel_rfl) rfl #[.string a0, .int .i64 x8_1] rfl (by (try simp only [List.map_toArray, List.map_cons, List.map_nil]); first | done | rfl | (simp only [List.length_drop, List.length_take]; rfl)) ?_; (with_reducible refine (wispref09_word.calls k1 a0 x8_1 t228 _ A18.out).mono ?_); rintro e w' ⟨rfl, ⟨nd, rfl⟩⟩; refine ⟨_, rfl, ?_⟩) | ((with_reducible refine gate_callee (f := 29) rfl ?_); refine goesL_ (some 68) rfl rfl Try.func29 (by kernel_rfl) rfl #[.string a0, .int .i64 t228, .int .u8 41] rfl (by (try simp only [List.map_toArray, List.map_cons, List.map_nil]); first | done | rfl | (simp only [List.length_drop, List.length_take]; rfl)) ?_; (with_reducible refine (wispref09_behind.calls k1 a0 t228 41 t230 _ A26.out).mono ?_); rintro e w' ⟨rfl, ⟨nd, rfl⟩⟩; refine ⟨_, rfl, ?_⟩))
                            have n0_ : Aside0 (Kd.R k30 30 ((w8.setCell ⟨gb225, 0, none⟩ (.int .i64 x6_1)).setCell ⟨gb225, 1, none⟩ (.int .i64 (wrap64 ((wrap64 (x8_1 - x7_1)) + 1)))) w.heap.size (fun _ => True) u5 x5_1) := ⟨by (with_reducible repeat (first | apply Kd.R_alloc | apply Kd.R_drewN | apply Kd.R_drew)); exact Kd.R_mono (Kd.R_far (p := ⟨gb225, 1, none⟩) (Kd.R_far (p := ⟨gb225, 0, none⟩) (Kd.R_types HO_5.out BK225.out (by decide)) (fun _ hk => hk.2) (.int .i64 x6_1)) (fun _ hk => hk.2) (.int .i64 (wrap64 ((wrap64 (x8_1 - x7_1)) + 1)))) (fun _ hk => trivial)⟩
                            have n1_ : Aside0 (((w8.setCell ⟨gb225, 0, none⟩ (.int .i64 x6_1)).setCell ⟨gb225, 1, none⟩ (.int .i64 (wrap64 ((wrap64 (x8_1 - x7_1)) + 1)))).heap[gb224]? = some (.cells #[.int .i64 x225000_1, .int .i64 x225001_1] 24 (0, 0))) := ⟨by (with_reducible repeat (first | refine blk_drewN ?_ _ | refine blk_drew ?_ | refine blk_alloc ?_ _)); refine blk_far ?_ NB224_225.out _; (with_reducible repeat (first | refine blk_drewN ?_ _ | refine blk_drew ?_ | refine blk_alloc ?_ _)); refine blk_far ?_ NB224_225.out _; (with_reducible repeat (first | refine blk_drewN ?_ _ | refine blk_drew ?_ | refine blk_alloc ?_ _)); exact BK224.out⟩
                            have n2_ : Aside0 (((w8.setCell ⟨gb225, 0, none⟩ (.int .i64 x6_1)).setCell ⟨gb225, 1, none⟩ (.int .i64 (wrap64 ((wrap64 (x8_1 - x7_1)) + 1)))).heap[gb225]? = some (.cells #[.int .i64 x6_1, .int .i64 (wrap64 ((wrap64 (x8_1 - x7_1)) + 1))] 24 (0, 0))) := ⟨by (with_reducible repeat (first | refine blk_drewN ?_ _ | refine blk_drew ?_ | refine blk_alloc ?_ _)); refine blk_put (cs := #[.int .i64 x6_1, .int .i64 0]) ?_ 1 _ rfl; (with_reducible repeat (first | refine blk_drewN ?_ _ | refine blk_drew ?_ | refine blk_alloc ?_ _)); refine blk_put (cs := #[.int .i64 0, .int .i64 0]) ?_ 0 _ rfl; (with_reducible repeat (first | refine blk_drewN ?_ _ | refine blk_drew ?_ | refine blk_alloc ?_ _)); exact BK225.out⟩
                            have n3_ : Aside0 (Below w.heap.size w ((w8.setCell ⟨gb225, 0, none⟩ (.int .i64 x6_1)).setCell ⟨gb225, 1, none⟩ (.int .i64 (wrap64 ((wrap64 (x8_1 - x7_1)) + 1))))) := ⟨by repeat (first | (with_reducible first | exact HB.out | apply below_alloc | apply pw_below_drewN | apply below_drew1 | refine below_set ?_ GE224.out | refine below_set ?_ GE225.out) | exact HB.out)⟩
                            (try clear HO_5)
                            (try clear BK224)
                            (try clear BK225)
                            (try clear HB)
                            generalize ((w8.setCell ⟨gb225, 0, none⟩ (.int .i64 x6_1)).setCell ⟨gb225, 1, none⟩ (.int .i64 (wrap64 ((wrap64 (x8_1 - x7_1)) + 1)))) = w28 at n0_ n1_ n2_ n3_ ⊢
                            have HO_5 := n0_
                            have BK224 := n1_
                            have BK225 := n2_
                            have HB := n3_
                            clear n0_ n1_ n2_ n3_
                            (try (rw [drewN_self w28]; generalize hq_ : World.drewN w28 _ = w28; have n0_ : Aside0 (Kd.R k30 30 w28 w.heap.size (fun _ => True) u5 x5_1) := ⟨by rw [← hq_]; exact (by (with_reducible repeat (first | apply Kd.R_alloc | apply Kd.R_drewN | apply Kd.R_drew)); exact HO_5.out)⟩; have n1_ : Aside0 (w28.heap[gb224]? = some (.cells #[.int .i64 x225000_1, .int .i64 x225001_1] 24 (0, 0))) := ⟨by rw [← hq_]; exact (by (with_reducible repeat (first | refine blk_drewN ?_ _ | refine blk_drew ?_ | refine blk_alloc ?_ _)); exact BK224.out)⟩; have n2_ : Aside0 (w28.heap[gb225]? = some (.cells #[.int .i64 x6_1, .int .i64 (wrap64 ((wrap64 (x8_1 - x7_1)) + 1))] 24 (0, 0))) := ⟨by rw [← hq_]; exact (by (with_reducible repeat (first | refine blk_drewN ?_ _ | refine blk_drew ?_ | refine blk_alloc ?_ _)); exact BK225.out)⟩; have n3_ : Aside0 (Below w.heap.size w w28) := ⟨by rw [← hq_]; exact (by repeat (first | (with_reducible first | exact HB.out | apply below_alloc | apply pw_below_drewN | apply below_drew1 | refine below_set ?_ GE224.out | refine below_set ?_ GE225.out) | exact HB.out))⟩; clear HO_5 BK224 BK225 HB hq_; have HO_5 := n0_; have BK224 := n1_; have BK225 := n2_; have HB := n3_; clear n0_ n1_ n2_ n3_))
                            have n0_ := Aside0.mk (Kd.R_drew HO_5.out)
                            have n1_ := Aside0.mk (blk_drew BK224.out)
                            have n2_ := Aside0.mk (blk_drew BK225.out)
                            have n3_ := Aside0.mk (below_drew1 HB.out)
                            clear HO_5
                            clear BK224
                            clear BK225
                            clear HB
                            have HO_5 := n0_
                            have BK224 := n1_
                            have BK225 := n2_
                            have HB := n3_
                            clear n0_ n1_ n2_ n3_
                            refine start_ (n := 4) (S := fun w' => w'.cell? ⟨gb225, 0, none⟩ = some (.int .i64 x6_1) ∧ w'.cell? ⟨gb225, 1, none⟩ = some (.int .i64 (wrap64 ((wrap64 (x8_1 - x7_1)) + 1)))) (ds := []) #[false, false, false, false] (by kernel_rfl) rfl rfl ⟨(blk_cell BK225.out 0).trans rfl, (blk_cell BK225.out 1).trans rfl⟩ (fun hHeld => ?_)
                            generalize w28.drew = w29 at HO_5 BK224 BK225 HB hHeld ⊢
                            refine pure_ (i := 1) (N := some 2) (v := ?_) (a' := ?_) #[false, true, false, false] rfl rfl (by kernel_rfl) (fun _ _ _ h => h) (Or.inl ⟨by rfl, ?_⟩) ?_ ?_
                            rotate_left
                            · intro w'
                              go_simp
                              with_reducible rfl
                            rotate_left
                            · simp only [Act.put, List.setIfInBounds_toArray, List.set_cons_zero, List.set_cons_succ, i64_w, i32_w]
                              rfl
                            refine take_ (i := 0) (N := some 71) (v := ?_) (a' := ?_) #[true, true, false, false] rfl rfl (by kernel_rfl) (fun _ _ _ h => h) (Or.inl ⟨by rfl, ?_⟩) hHeld ?_ ?_
                            rotate_left
                            · rintro w' ⟨s0, s1⟩
                              go_simp
                              with_reducible rfl
                            rotate_left
                            · simp only [Act.put, List.setIfInBounds_toArray, List.set_cons_zero, List.set_cons_succ, i64_w, i32_w]
                              rfl
                            refine one_ (i := 2) (N := none) #[true, true, true, false] rfl rfl (by kernel_rfl) (by decide) (fun K hK => ?_)
                            have hs30 : w29.cell? ⟨gb224, 0, none⟩ = some (.int .i64 x225000_1) := (blk_cell BK224.out 0).trans rfl
                            have hfs30 := blk_frozen BK224.out 0
                            have hns30_1 := NB225_224.out
                            have hms30_1 := NB224_225.out
                            have hs31 : w29.cell? ⟨gb224, 1, none⟩ = some (.int .i64 x225001_1) := (blk_cell BK224.out 1).trans rfl
                            have hfs31 := blk_frozen BK224.out 1
                            have hns31_1 := NB225_224.out
                            have hms31_1 := NB224_225.out
                            refine skip_ (w1 := ?_) (by rfl) rfl ?_ ?_
                            rotate_left
                            · go_simp
                              rfl
                            refine hK.out _ _ ⟨((cell_far (p := ⟨gb224, _, none⟩) NB225_224.out _).trans (((cell_far (p := ⟨gb224, _, none⟩) NB225_224.out _).trans (hHeld.1)))), ((cell_far (p := ⟨gb224, _, none⟩) NB225_224.out _).trans (((cell_far (p := ⟨gb224, _, none⟩) NB225_224.out _).trans (hHeld.2))))⟩ (fun hHeld => ?_)
                            clear hK K
                            refine pure_ (i := 3) (N := some 4) (v := ?_) (a' := ?_) #[true, true, true, true] rfl rfl (by kernel_rfl) (fun _ _ _ h => h) (Or.inl ⟨by rfl, ?_⟩) ?_ ?_
                            rotate_left
                            · intro w'
                              go_simp
                              with_reducible rfl
                            rotate_left
                            · simp only [Act.put, List.setIfInBounds_toArray, List.set_cons_zero, List.set_cons_succ, i64_w, i32_w]
                              rfl
                            refine done_ (by kernel_rfl) ?_
                            try go_wp2
                            refine bodyPost_ret (results_list (rs := [.tmp 2, .cell 3 24, .tmp 4]) rfl (by simp) (.tmp (.cell gb224 24 #[.int .i64 x6_1, .int .i64 (wrap64 ((wrap64 (x8_1 - x7_1)) + 1))] (0, 0) _ rfl (by (with_reducible repeat (first | refine blk_drewN ?_ _ | refine blk_drew ?_ | refine blk_alloc ?_ _)); refine blk_put (cs := #[.int .i64 x6_1, .int .i64 x225001_1]) ?_ 1 _ rfl; (with_reducible repeat (first | refine blk_drewN ?_ _ | refine blk_drew ?_ | refine blk_alloc ?_ _)); refine blk_put (cs := #[.int .i64 x225000_1, .int .i64 x225001_1]) ?_ 0 _ rfl; (with_reducible repeat (first | refine blk_drewN ?_ _ | refine blk_drew ?_ | refine blk_alloc ?_ _)); exact BK224.out) Try.underlying24 rfl (by kernel_rfl) (.tmp .nil)))) rfl ?_
                            exact ⟨_, by first | rfl | (simp [errW_none, errW_some] <;> rfl) | (simp [*, errW_none, errW_some] <;> rfl), by first | exact Kd.R_nil _ _ _ _ _ | exact Kd.N_nil _ _ _ _ _ | exact Kd.V_nil _ _ _ _ _ | exact Kd.Q_nil _ _ _ _ _ | exact Kd.S_nil _ _ _ _ _, by repeat (first | (with_reducible first | exact HB.out | apply below_alloc | apply pw_below_drewN | apply below_drew1 | refine below_set ?_ GE224.out | refine below_set ?_ GE225.out) | exact HB.out)⟩
                          · rw [if_neg c27] at H
                            have c27b0 : decide (t230 < 0) = false := decide_eq_false c27
                            clear c27
                            have H' := Aside0.mk H
                            clear H
                            have p12 : 0 ≤ (x8_1 : Int) := of_decide_eq_true (by first | (with_reducible assumption) | assumption)
                            have q12 : x8_1 < (a0.size : Int) := of_decide_eq_true (by first | (with_reducible assumption) | assumption)
                            have hx12 := bt_at a0 x8_1
                            replace p12 := eq_true p12
                            replace q12 := eq_true q12
                            go_wp2_with (first | ((with_reducible refine gate_callee (f := 26) rfl ?_); refine goesL_ (some 76) rfl rfl Try.func26 (by kernel_rfl) rfl #[.int .u8 (bt a0 x8_1)] rfl (by (try simp only [List.map_toArray, List.map_cons, List.map_nil]); first | done | rfl | (simp only [List.length_drop, List.length_take]; rfl)) ?_; (with_reducible refine (wispref09_blank.calls (bt a0 x8_1) false _ A13.out).mono ?_); rintro e w' ⟨rfl, ⟨nd, rfl⟩⟩; refine ⟨_, rfl, ?_⟩; have p15 : 0 ≤ (x8_1 : Int) := of_decide_eq_true (by first | (with_reducible assumption) | assumption); have q15 : x8_1 < (a0.size : Int) := of_decide_eq_true (by first | (with_reducible assumption) | assumption); have hx15 := bt_at a0 x8_1; replace p15 := eq_true p15; replace q15 := eq_true q15) | ((with_reducible refine gate_callee (f := 27) rfl ?_); refine goesL_ (some 83) rfl rfl Try.func27 (by kernel_rfl) rfl #[.int .u8 (bt a0 x8_1)] rfl (by (try simp only [List.map_toArray, List.map_cons, List.map_nil]); first | done | rfl | (simp only [List.length_drop, List.length_take]; rfl)) ?_; (with_reducible refine (wispref09_letter.calls (bt a0 x8_1) true _ A16.out).mono ?_); rintro e w' ⟨rfl, ⟨nd, rfl⟩⟩; refine ⟨_, rfl, ?_⟩) | ((with_reducible refine gate_callee (f := 28) rfl ?_); refine goesL_ (some 32) rfl rfl Try.func28 (by kernel_rfl) rfl #[.string a0, .int .i64 x8_1] rfl (by (try simp only [List.map_toArray, List.map_cons, List.map_nil]); first | done | rfl | (simp only [List.length_drop, List.length_take]; rfl)) ?_; (with_reducible refine (wispref09_word.calls k1 a0 x8_1 t228 _ A18.out).mono ?_); rintro e w' ⟨rfl, ⟨nd, rfl⟩⟩; refine ⟨_, rfl, ?_⟩) | ((with_reducible refine gate_callee (f := 29) rfl ?_); refine goesL_ (some 68) rfl rfl Try.func29 (by kernel_rfl) rfl #[.string a0, .int .i64 t228, .int .u8 41] rfl (by (try simp only [List.map_toArray, List.map_cons, List.map_nil]); first | done | rfl | (simp only [List.length_drop, List.length_take]; rfl)) ?_; (with_reducible refine (wispref09_behind.calls k1 a0 t228 41 t230 _ A26.out).mono ?_); rintro e w' ⟨rfl, ⟨nd, rfl⟩⟩; refine ⟨_, rfl, ?_⟩))
                            go_meet
                            case rel => exact ⟨_, (x5_1), (t230), (x225000_1), (x225001_1), (by first | rfl | (simp; done) | (simp [*]; done) | (simp [isEmpty_ne]; done)), H', ⟨by have := HK1.out; first | omega | exact Nat.le_refl _⟩, ⟨by (with_reducible repeat (first | apply Kd.R_alloc | apply Kd.R_drewN | apply Kd.R_drew)); exact Kd.R_mono (Kd.R_far (p := ⟨gb225, 1, none⟩) (Kd.R_far (p := ⟨gb225, 0, none⟩) (Kd.R_types HO_5.out BK225.out (by decide)) (fun _ hk => hk.2) (.int .i64 x6_1)) (fun _ hk => hk.2) (.int .i64 (wrap64 ((wrap64 (x8_1 - x7_1)) + 1)))) (fun _ hk => trivial)⟩, ⟨by (with_reducible repeat (first | refine blk_drewN ?_ _ | refine blk_drew ?_ | refine blk_alloc ?_ _)); refine blk_far ?_ NB224_225.out _; (with_reducible repeat (first | refine blk_drewN ?_ _ | refine blk_drew ?_ | refine blk_alloc ?_ _)); refine blk_far ?_ NB224_225.out _; (with_reducible repeat (first | refine blk_drewN ?_ _ | refine blk_drew ?_ | refine blk_alloc ?_ _)); exact BK224.out⟩, ⟨by (with_reducible repeat (first | refine blk_drewN ?_ _ | refine blk_drew ?_ | refine blk_alloc ?_ _)); refine blk_put (cs := #[.int .i64 x6_1, .int .i64 0]) ?_ 1 _ rfl; (with_reducible repeat (first | refine blk_drewN ?_ _ | refine blk_drew ?_ | refine blk_alloc ?_ _)); refine blk_put (cs := #[.int .i64 0, .int .i64 0]) ?_ 0 _ rfl; (with_reducible repeat (first | refine blk_drewN ?_ _ | refine blk_drew ?_ | refine blk_alloc ?_ _)); exact BK225.out⟩, ⟨by repeat (first | (with_reducible first | exact HB.out | apply below_alloc | apply pw_below_drewN | apply below_drew1 | refine below_set ?_ GE224.out | refine below_set ?_ GE225.out) | exact HB.out)⟩⟩
                        · rw [if_neg c25] at H
                          have c25b0 : ((a0.extract (x8_1 : Int).toNat (t228 : Int).toNat).toList == ([40] : List UInt8)) = false := beq_eq_false_iff_ne.mpr c25
                          have c25b1 : ((a0.extract (x8_1 : Int).toNat (t228 : Int).toNat).toList != ([40] : List UInt8)) = true := bne_iff_ne.mpr c25
                          have c32b0 := eq_true (of_decide_eq_true (by first | (with_reducible assumption) | assumption) : 0 ≤ x8_1)
                          have c33b0 := eq_true (of_decide_eq_true (by first | (with_reducible assumption) | assumption) : x8_1 ≤ t228)
                          have c34b0 := eq_true (of_decide_eq_true (by first | (with_reducible assumption) | assumption) : t228 ≤ (a0.size : Int))
                          replace H := Option.bind_eq_some_iff.mp H
                          obtain ⟨⟨t231, t232, t233, t234, t235, t236⟩, A350, H⟩ := H
                          replace H : (if t236 = 0 then (if x5_1.length < 2932031007402 then (wispref09_Scan.j1 k1 a0 (x5_1 ++ [(⟨t231, t232, t233, (⟨t234, t235⟩ : S24)⟩ : S30)]) x6_1 x7_1 t228 x8_1) else (none)) else (some (([] : List (S30)), x6_1, wrap64 ((wrap64 (x8_1 - x7_1)) + 1), t236))) = some (r1, r2, r3, r4) := H
                          have A35 := Aside0.mk A350
                          clear A350
                          by_cases c36 : t236 = 0
                          · rw [if_pos c36] at H
                            have c36b0 : (t236 == 0) = true := beq_iff_eq.mpr c36
                            have c36b1 : (t236 != 0) = false := bne_eq_false_iff_eq.mpr c36
                            clear c36
                            by_cases c37 : x5_1.length < 2932031007402
                            · rw [if_pos c37] at H
                              have LMc37 := Aside0.mk c37
                              clear c37
                              obtain ⟨y238, hy238⟩ : ∃ y_ : List (S30), y_ = (x5_1 ++ [(⟨t231, t232, t233, (⟨t234, t235⟩ : S24)⟩ : S30)]) := ⟨_, rfl⟩
                              replace H : (wispref09_Scan.j1 k1 a0 y238 x6_1 x7_1 t228 x8_1) = some (r1, r2, r3, r4) := by first | (rw [hy238]; with_reducible exact H) | (have H2_ := (Option.bind_some _ _).symm.trans H; rw [hy238]; with_reducible exact H2_) | (have H2_ := (Option.bind_some _ _).symm.trans H; with_reducible exact H2_) | with_reducible exact H | (rw [hy238]; exact H) | exact H
                              have Ny238 := Aside0.mk hy238
                              clear hy238
                              have H' := Aside0.mk H
                              clear H
                              have p12 : 0 ≤ (x8_1 : Int) := of_decide_eq_true (by first | (with_reducible assumption) | assumption)
                              have q12 : x8_1 < (a0.size : Int) := of_decide_eq_true (by first | (with_reducible assumption) | assumption)
                              have hx12 := bt_at a0 x8_1
                              replace p12 := eq_true p12
                              replace q12 := eq_true q12
                              try go_wp2_with (first | ((with_reducible refine gate_callee (f := 26) rfl ?_); refine goesL_ (some 76) rfl rfl Try.func26 (by kernel_rfl) rfl #[.int .u8 (bt a0 x8_1)] rfl (by (try simp only [List.map_toArray, List.map_cons, List.map_nil]); first | done | rfl | (simp only [List.length_drop, List.length_take]; rfl)) ?_; (with_reducible refine (wispref09_blank.calls (bt a0 x8_1) false _ A13.out).mono ?_); rintro e w' ⟨rfl, ⟨nd, rfl⟩⟩; refine ⟨_, rfl, ?_⟩; have p15 : 0 ≤ (x8_1 : Int) := of_decide_eq_true (by first | (with_reducible assumption) | assumption); have q15 : x8_1 < (a0.size : Int) := of_decide_eq_true (by first | (with_reducible assumption) | assumption); have hx15 := bt_at a0 x8_1; replace p15 := eq_true p15; replace q15 := eq_true q15) | ((with_reducible refine gate_callee (f := 27) rfl ?_); refine goesL_ (some 83) rfl rfl Try.func27 (by kernel_rfl) rfl #[.int .u8 (bt a0 x8_1)] rfl (by (try simp only [List.map_toArray, List.map_cons, List.map_nil]); first | done | rfl | (simp only [List.length_drop, List.length_take]; rfl)) ?_; (with_reducible refine (wispref09_letter.calls (bt a0 x8_1) true _ A16.out).mono ?_); rintro e w' ⟨rfl, ⟨nd, rfl⟩⟩; refine ⟨_, rfl, ?_⟩) | ((with_reducible refine gate_callee (f := 28) rfl ?_); refine goesL_ (some 32) rfl rfl Try.func28 (by kernel_rfl) rfl #[.string a0, .int .i64 x8_1] rfl (by (try simp only [List.map_toArray, List.map_cons, List.map_nil]); first | done | rfl | (simp only [List.length_drop, List.length_take]; rfl)) ?_; (with_reducible refine (wispref09_word.calls k1 a0 x8_1 t228 _ A18.out).mono ?_); rintro e w' ⟨rfl, ⟨nd, rfl⟩⟩; refine ⟨_, rfl, ?_⟩))
                              have n0_ : Aside0 (Kd.R k30 30 ((w8.setCell ⟨gb225, 0, none⟩ (.int .i64 x6_1)).setCell ⟨gb225, 1, none⟩ (.int .i64 (wrap64 ((wrap64 (x8_1 - x7_1)) + 1)))) w.heap.size (fun _ => True) u5 x5_1) := ⟨by (with_reducible repeat (first | apply Kd.R_alloc | apply Kd.R_drewN | apply Kd.R_drew)); exact Kd.R_mono (Kd.R_far (p := ⟨gb225, 1, none⟩) (Kd.R_far (p := ⟨gb225, 0, none⟩) (Kd.R_types HO_5.out BK225.out (by decide)) (fun _ hk => hk.2) (.int .i64 x6_1)) (fun _ hk => hk.2) (.int .i64 (wrap64 ((wrap64 (x8_1 - x7_1)) + 1)))) (fun _ hk => trivial)⟩
                              have n1_ : Aside0 (((w8.setCell ⟨gb225, 0, none⟩ (.int .i64 x6_1)).setCell ⟨gb225, 1, none⟩ (.int .i64 (wrap64 ((wrap64 (x8_1 - x7_1)) + 1)))).heap[gb224]? = some (.cells #[.int .i64 x225000_1, .int .i64 x225001_1] 24 (0, 0))) := ⟨by (with_reducible repeat (first | refine blk_drewN ?_ _ | refine blk_drew ?_ | refine blk_alloc ?_ _)); refine blk_far ?_ NB224_225.out _; (with_reducible repeat (first | refine blk_drewN ?_ _ | refine blk_drew ?_ | refine blk_alloc ?_ _)); refine blk_far ?_ NB224_225.out _; (with_reducible repeat (first | refine blk_drewN ?_ _ | refine blk_drew ?_ | refine blk_alloc ?_ _)); exact BK224.out⟩
                              have n2_ : Aside0 (((w8.setCell ⟨gb225, 0, none⟩ (.int .i64 x6_1)).setCell ⟨gb225, 1, none⟩ (.int .i64 (wrap64 ((wrap64 (x8_1 - x7_1)) + 1)))).heap[gb225]? = some (.cells #[.int .i64 x6_1, .int .i64 (wrap64 ((wrap64 (x8_1 - x7_1)) + 1))] 24 (0, 0))) := ⟨by (with_reducible repeat (first | refine blk_drewN ?_ _ | refine blk_drew ?_ | refine blk_alloc ?_ _)); refine blk_put (cs := #[.int .i64 x6_1, .int .i64 0]) ?_ 1 _ rfl; (with_reducible repeat (first | refine blk_drewN ?_ _ | refine blk_drew ?_ | refine blk_alloc ?_ _)); refine blk_put (cs := #[.int .i64 0, .int .i64 0]) ?_ 0 _ rfl; (with_reducible repeat (first | refine blk_drewN ?_ _ | refine blk_drew ?_ | refine blk_alloc ?_ _)); exact BK225.out⟩
                              have n3_ : Aside0 (Below w.heap.size w ((w8.setCell ⟨gb225, 0, none⟩ (.int .i64 x6_1)).setCell ⟨gb225, 1, none⟩ (.int .i64 (wrap64 ((wrap64 (x8_1 - x7_1)) + 1))))) := ⟨by repeat (first | (with_reducible first | exact HB.out | apply below_alloc | apply pw_below_drewN | apply below_drew1 | refine below_set ?_ GE224.out | refine below_set ?_ GE225.out) | exact HB.out)⟩
                              (try clear HO_5)
                              (try clear BK224)
                              (try clear BK225)
                              (try clear HB)
                              generalize ((w8.setCell ⟨gb225, 0, none⟩ (.int .i64 x6_1)).setCell ⟨gb225, 1, none⟩ (.int .i64 (wrap64 ((wrap64 (x8_1 - x7_1)) + 1)))) = w38 at n0_ n1_ n2_ n3_ ⊢
                              have HO_5 := n0_
                              have BK224 := n1_
                              have BK225 := n2_
                              have HB := n3_
                              clear n0_ n1_ n2_ n3_
                              (try (rw [drewN_self w38]; generalize hq_ : World.drewN w38 _ = w38; have n0_ : Aside0 (Kd.R k30 30 w38 w.heap.size (fun _ => True) u5 x5_1) := ⟨by rw [← hq_]; exact (by (with_reducible repeat (first | apply Kd.R_alloc | apply Kd.R_drewN | apply Kd.R_drew)); exact HO_5.out)⟩; have n1_ : Aside0 (w38.heap[gb224]? = some (.cells #[.int .i64 x225000_1, .int .i64 x225001_1] 24 (0, 0))) := ⟨by rw [← hq_]; exact (by (with_reducible repeat (first | refine blk_drewN ?_ _ | refine blk_drew ?_ | refine blk_alloc ?_ _)); exact BK224.out)⟩; have n2_ : Aside0 (w38.heap[gb225]? = some (.cells #[.int .i64 x6_1, .int .i64 (wrap64 ((wrap64 (x8_1 - x7_1)) + 1))] 24 (0, 0))) := ⟨by rw [← hq_]; exact (by (with_reducible repeat (first | refine blk_drewN ?_ _ | refine blk_drew ?_ | refine blk_alloc ?_ _)); exact BK225.out)⟩; have n3_ : Aside0 (Below w.heap.size w w38) := ⟨by rw [← hq_]; exact (by repeat (first | (with_reducible first | exact HB.out | apply below_alloc | apply pw_below_drewN | apply below_drew1 | refine below_set ?_ GE224.out | refine below_set ?_ GE225.out) | exact HB.out))⟩; clear HO_5 BK224 BK225 HB hq_; have HO_5 := n0_; have BK224 := n1_; have BK225 := n2_; have HB := n3_; clear n0_ n1_ n2_ n3_))
                              have n0_ := Aside0.mk (Kd.R_drew HO_5.out)
                              have n1_ := Aside0.mk (blk_drew BK224.out)
                              have n2_ := Aside0.mk (blk_drew BK225.out)
                              have n3_ := Aside0.mk (below_drew1 HB.out)
                              clear HO_5
                              clear BK224
                              clear BK225
                              clear HB
                              have HO_5 := n0_
                              have BK224 := n1_
                              have BK225 := n2_
                              have HB := n3_
                              clear n0_ n1_ n2_ n3_
                              refine start_ (n := 12) (S := fun w' => w'.cell? ⟨gb225, 0, none⟩ = some (.int .i64 x6_1) ∧ w'.cell? ⟨gb225, 1, none⟩ = some (.int .i64 (wrap64 ((wrap64 (x8_1 - x7_1)) + 1)))) (ds := []) #[false, false, false, false, false, false, false, false, false, false, false, false] (by kernel_rfl) rfl rfl ⟨(blk_cell BK225.out 0).trans rfl, (blk_cell BK225.out 1).trans rfl⟩ (fun hHeld => ?_); refine with_tabW wispref09_Scan.tab11 wispref09_Scan.bits11 (fun HT_ HW_ => ?_)
                              generalize w38.drew = w39 at HO_5 BK224 BK225 HB hHeld ⊢
                              refine pure_ (i := 0) (N := some 38) (v := ?_) (a' := ?_) #[true, false, false, false, false, false, false, false, false, false, false, false] rfl rfl (any_of HT_.out (by kernel_rfl)) (fun _ _ _ h => h) (Or.inl ⟨by rfl, ?_⟩) ?_ ?_
                              rotate_left
                              · intro w'
                                go_simp
                                with_reducible rfl
                              rotate_left
                              · simp only [Act.put, List.setIfInBounds_toArray, List.set_cons_zero, List.set_cons_succ, i64_w, i32_w]
                                rfl
                              refine pure_ (i := 1) (N := some 39) (v := ?_) (a' := ?_) #[true, true, false, false, false, false, false, false, false, false, false, false] rfl rfl (any_of HT_.out (by kernel_rfl)) (fun _ _ _ h => h) (Or.inl ⟨by rfl, ?_⟩) ?_ ?_
                              rotate_left
                              · intro w'
                                go_simp
                                with_reducible rfl
                              rotate_left
                              · simp only [Act.put, List.setIfInBounds_toArray, List.set_cons_zero, List.set_cons_succ, i64_w, i32_w]
                                rfl
                              refine pure_ (i := 2) (N := some 40) (v := ?_) (a' := ?_) #[true, true, true, false, false, false, false, false, false, false, false, false] rfl rfl (any_of HT_.out (by kernel_rfl)) (fun _ _ _ h => h) (Or.inl ⟨by rfl, ?_⟩) ?_ ?_
                              rotate_left
                              · intro w'
                                go_simp
                                with_reducible rfl
                              rotate_left
                              · simp only [Act.put, List.setIfInBounds_toArray, List.set_cons_zero, List.set_cons_succ, i64_w, i32_w]
                                rfl
                              refine pure_ (i := 3) (N := some 41) (v := ?_) (a' := ?_) #[true, true, true, true, false, false, false, false, false, false, false, false] rfl rfl (any_of HT_.out (by kernel_rfl)) (fun _ _ _ h => h) (Or.inl ⟨by rfl, ?_⟩) ?_ ?_
                              rotate_left
                              · intro w'
                                go_simp
                                with_reducible rfl
                              rotate_left
                              · simp only [Act.put, List.setIfInBounds_toArray, List.set_cons_zero, List.set_cons_succ, i64_w, i32_w]
                                rfl
                              refine take_ (i := 4) (N := some 42) (v := ?_) (a' := ?_) #[true, true, true, true, true, false, false, false, false, false, false, false] rfl rfl (take_ofW HT_.out HW_.out (by kernel_rfl)) (fun _ _ _ h => h) (Or.inl ⟨by rfl, ?_⟩) hHeld ?_ ?_
                              rotate_left
                              · rintro w' ⟨s0, s1⟩
                                go_simp
                                with_reducible rfl
                              rotate_left
                              · simp only [Act.put, List.setIfInBounds_toArray, List.set_cons_zero, List.set_cons_succ, i64_w, i32_w]
                                rfl
                              refine join_ (σ := Nat) 2 #[true, true, true, true, true, true, true, true, true, true, false, false] (fun s_ => [(43, .tuple #[.agg #[.int .i64 t231, .string t232, .int .u16 t233, .int .i64 t234, .int .i64 t235], .int .i64 t236]), (12, .pointer (some ⟨s_, 0, none⟩)), (37, .tuple #[.agg #[.int .i64 t231, .string t232, .int .u16 t233, .int .i64 t234, .int .i64 t235], .int .i64 t236]), (44, .agg #[.int .i64 t231, .string t232, .int .u16 t233, .int .i64 t234, .int .i64 t235]), (45, .int .i64 t236)]) (fun s_ w' => (w'.cell? ⟨gb225, 0, none⟩ = some (.int .i64 x6_1) ∧ w'.cell? ⟨gb225, 1, none⟩ = some (.int .i64 (wrap64 ((wrap64 (x8_1 - x7_1)) + 1)))) ∧ (Kd.R k30 30 w' w.heap.size (fun k_ => k_ ≠ s_) u5 x5_1) ∧ (w'.heap[gb224]? = some (.cells #[.int .i64 x225000_1, .int .i64 x225001_1] 24 (0, 0))) ∧ (w'.heap[gb225]? = some (.cells #[.int .i64 x6_1, .int .i64 (wrap64 ((wrap64 (x8_1 - x7_1)) + 1))] 24 (0, 0))) ∧ (w'.heap[s_]? = some (.cells #[.int .i64 0, .string (⟨#[]⟩ : ByteArray), .int .u16 0, .int .i64 0, .int .i64 0] 30 (0, 0))) ∧ (w.heap.size ≤ s_) ∧ (w.heap.size ≤ s_) ∧ (gb224 ≠ s_) ∧ (s_ ≠ gb224) ∧ (gb225 ≠ s_) ∧ (s_ ≠ gb225) ∧ (Below w.heap.size w w')) ?_ ?_
                              rotate_left
                              · intro hCont
                                refine two_ (i := 5) (j := 9) (Ni := some 43) (Nj := some 12) #[true, true, true, true, true, true, false, false, false, false, false, false] #[true, true, true, true, true, false, false, false, false, true, false, false] rfl rfl rfl rfl (two_of HT_.out (by kernel_rfl)) (by decide) (by decide) (fun K hK => ?_) (fun K hK => ?_)
                                · skip
                                  refine goes_ Try.func30 (by kernel_rfl) rfl #[.string (a0.extract (x8_1 : Int).toNat (t228 : Int).toNat), .agg #[.int .i64 x6_1, .int .i64 (wrap64 ((wrap64 (x8_1 - x7_1)) + 1))]] (by rfl) rfl rfl (by (try simp only [List.map_toArray, List.map_cons, List.map_nil]); first | done | rfl | (simp only [List.length_drop, List.length_take]; rfl)) ?_
                                  with_reducible refine (wispref09_token.calls k1 (a0.extract (x8_1 : Int).toNat (t228 : Int).toNat) x6_1 (wrap64 ((wrap64 (x8_1 - x7_1)) + 1)) t231 t232 t233 t234 t235 t236 _ A35.out).mono ?_
                                  rintro e w40 ⟨rfl, hb⟩
                                  refine ⟨_, rfl, ?_⟩
                                  have n0_ := Aside0.mk (Kd.R_below (by (with_reducible repeat (first | apply Kd.R_alloc | apply Kd.R_drewN | apply Kd.R_drew)); exact HO_5.out) hb)
                                  have n1_ := Aside0.mk (blk_below (g := gb224) (o := .cells #[.int .i64 x225000_1, .int .i64 x225001_1] 24 (0, 0)) (by (with_reducible repeat (first | refine blk_drewN ?_ _ | refine blk_drew ?_ | refine blk_alloc ?_ _)); exact BK224.out) hb)
                                  have n2_ := Aside0.mk (blk_below (g := gb225) (o := .cells #[.int .i64 x6_1, .int .i64 (wrap64 ((wrap64 (x8_1 - x7_1)) + 1))] 24 (0, 0)) (by (with_reducible repeat (first | refine blk_drewN ?_ _ | refine blk_drew ?_ | refine blk_alloc ?_ _)); exact BK225.out) hb)
                                  have n3_ := Aside0.mk (below_step (by repeat (first | (with_reducible first | exact HB.out | apply below_alloc | apply pw_below_drewN | apply below_drew1 | refine below_set ?_ GE224.out | refine below_set ?_ GE225.out) | exact HB.out)) hb)
                                  clear HO_5
                                  clear BK224
                                  clear BK225
                                  clear HB
                                  have HO_5 := n0_
                                  have BK224 := n1_
                                  have BK225 := n2_
                                  have HB := n3_
                                  clear n0_ n1_ n2_ n3_
                                  (try clear hb)
                                  (try clear hb2)
                                  (try clear hk)
                                  (try clear hi)
                                  refine hK.out _ _ ⟨(blk_cell BK225.out 0).trans rfl, (blk_cell BK225.out 1).trans rfl⟩ (fun hHeld => ?_)
                                  clear hK K
                                  refine norm_ (a' := ?_) ?_ ?_
                                  rotate_left
                                  · show Act.put _ (some 43) _ = _
                                    simp only [Act.put, List.setIfInBounds_toArray, List.set_cons_zero, List.set_cons_succ, i64_w, i32_w]
                                    rfl
                                  refine pure_ (i := 6) (N := some 37) (v := ?_) (a' := ?_) #[true, true, true, true, true, true, true, false, false, false, false, false] rfl rfl (any_of HT_.out (by kernel_rfl)) (fun _ _ _ h => h) (Or.inl ⟨by rfl, ?_⟩) ?_ ?_
                                  rotate_left
                                  · intro w'
                                    go_simp
                                    with_reducible rfl
                                  rotate_left
                                  · simp only [Act.put, List.setIfInBounds_toArray, List.set_cons_zero, List.set_cons_succ, i64_w, i32_w]
                                    rfl
                                  refine pure_ (i := 7) (N := some 44) (v := ?_) (a' := ?_) #[true, true, true, true, true, true, true, true, false, false, false, false] rfl rfl (any_of HT_.out (by kernel_rfl)) (fun _ _ _ h => h) (Or.inl ⟨by rfl, ?_⟩) ?_ ?_
                                  rotate_left
                                  · intro w'
                                    go_simp
                                    with_reducible rfl
                                  rotate_left
                                  · simp only [Act.put, List.setIfInBounds_toArray, List.set_cons_zero, List.set_cons_succ, i64_w, i32_w]
                                    rfl
                                  refine pure_ (i := 8) (N := some 45) (v := ?_) (a' := ?_) #[true, true, true, true, true, true, true, true, true, false, false, false] rfl rfl (any_of HT_.out (by kernel_rfl)) (fun _ _ _ h => h) (Or.inl ⟨by rfl, ?_⟩) ?_ ?_
                                  rotate_left
                                  · intro w'
                                    go_simp
                                    with_reducible rfl
                                  rotate_left
                                  · simp only [Act.put, List.setIfInBounds_toArray, List.set_cons_zero, List.set_cons_succ, i64_w, i32_w]
                                    rfl
                                  refine one_ (i := 9) (N := some 12) #[true, true, true, true, true, true, true, true, true, true, false, false] rfl rfl (one_of HT_.out (by kernel_rfl)) (by decide) (fun K hK => ?_)
                                  refine box_step ?hg (N := 12) ?hd (cs := #[.int .i64 0, .string (⟨#[]⟩ : ByteArray), .int .u16 0, .int .i64 0, .int .i64 0]) (t := 30) ?hr ?_; (case hd => rfl); (case hg => rfl); (case hr => first | (go_simp; done) | (go_simp; rfl))
                                  intro gb237 hg w41 hbox hb
                                  have n0_ := Aside0.mk (Kd.R_below (Kd.R_elderB (by (with_reducible repeat (first | apply Kd.R_alloc | apply Kd.R_drewN | apply Kd.R_drew)); exact HO_5.out) gb237 (Nat.le_of_eq hg.symm)) hb)
                                  have n1_ := Aside0.mk (blk_below (g := gb224) (o := .cells #[.int .i64 x225000_1, .int .i64 x225001_1] 24 (0, 0)) (by (with_reducible repeat (first | refine blk_drewN ?_ _ | refine blk_drew ?_ | refine blk_alloc ?_ _)); exact BK224.out) hb)
                                  have n2_ := Aside0.mk (blk_below (g := gb225) (o := .cells #[.int .i64 x6_1, .int .i64 (wrap64 ((wrap64 (x8_1 - x7_1)) + 1))] 24 (0, 0)) (by (with_reducible repeat (first | refine blk_drewN ?_ _ | refine blk_drew ?_ | refine blk_alloc ?_ _)); exact BK225.out) hb)
                                  have n3_ := Aside0.mk (below_step (by repeat (first | (with_reducible first | exact HB.out | apply below_alloc | apply pw_below_drewN | apply below_drew1 | refine below_set ?_ GE224.out | refine below_set ?_ GE225.out) | exact HB.out)) hb)
                                  have n4_ := Aside0.mk (hbox)
                                  have n5_ := Aside0.mk ((by rw [hg]; exact (below_size (by repeat (first | (with_reducible first | exact HB.out | apply below_alloc | apply pw_below_drewN | apply below_drew1 | refine below_set ?_ GE224.out | refine below_set ?_ GE225.out) | exact HB.out))) : w.heap.size ≤ gb237))
                                  have n6_ := Aside0.mk ((by rw [hg]; exact (below_size (by repeat (first | (with_reducible first | exact HB.out | apply below_alloc | apply pw_below_drewN | apply below_drew1 | refine below_set ?_ GE224.out | refine below_set ?_ GE225.out) | exact HB.out))) : w.heap.size ≤ gb237))
                                  have n7_ := Aside0.mk ((by rw [hg]; exact Nat.ne_of_lt (blk_lt (g := gb224) (o := .cells #[.int .i64 x225000_1, .int .i64 x225001_1] 24 (0, 0)) (by (with_reducible repeat (first | refine blk_drewN ?_ _ | refine blk_drew ?_ | refine blk_alloc ?_ _)); exact BK224.out)) : gb224 ≠ gb237))
                                  have n8_ := Aside0.mk ((by rw [hg]; exact Nat.ne_of_gt (blk_lt (g := gb224) (o := .cells #[.int .i64 x225000_1, .int .i64 x225001_1] 24 (0, 0)) (by (with_reducible repeat (first | refine blk_drewN ?_ _ | refine blk_drew ?_ | refine blk_alloc ?_ _)); exact BK224.out)) : gb237 ≠ gb224))
                                  have n9_ := Aside0.mk ((by rw [hg]; exact Nat.ne_of_lt (blk_lt (g := gb225) (o := .cells #[.int .i64 x6_1, .int .i64 (wrap64 ((wrap64 (x8_1 - x7_1)) + 1))] 24 (0, 0)) (by (with_reducible repeat (first | refine blk_drewN ?_ _ | refine blk_drew ?_ | refine blk_alloc ?_ _)); exact BK225.out)) : gb225 ≠ gb237))
                                  have n10_ := Aside0.mk ((by rw [hg]; exact Nat.ne_of_gt (blk_lt (g := gb225) (o := .cells #[.int .i64 x6_1, .int .i64 (wrap64 ((wrap64 (x8_1 - x7_1)) + 1))] 24 (0, 0)) (by (with_reducible repeat (first | refine blk_drewN ?_ _ | refine blk_drew ?_ | refine blk_alloc ?_ _)); exact BK225.out)) : gb237 ≠ gb225))
                                  clear HO_5
                                  clear BK224
                                  clear BK225
                                  clear HB
                                  have HO_5 := n0_
                                  have BK224 := n1_
                                  have BK225 := n2_
                                  have HB := n3_
                                  have BK237 := n4_
                                  have GW237 := n5_
                                  have GE237 := n6_
                                  have NB224_237 := n7_
                                  have NB237_224 := n8_
                                  have NB225_237 := n9_
                                  have NB237_225 := n10_
                                  clear n0_ n1_ n2_ n3_ n4_ n5_ n6_ n7_ n8_ n9_ n10_
                                  clear hb hbox hg
                                  refine hK.out _ _ ⟨(blk_cell BK225.out 0).trans rfl, (blk_cell BK225.out 1).trans rfl⟩ (fun hHeld => ?_)
                                  clear hK K
                                  refine norm_ (a' := ?_) ?_ ?_
                                  rotate_left
                                  · show Act.put _ (some 12) _ = _
                                    simp only [Act.put, List.setIfInBounds_toArray, List.set_cons_zero, List.set_cons_succ, i64_w, i32_w]
                                    rfl
                                  exact norm_ (by simp only [putAll, Act.put, List.setIfInBounds_toArray, List.set_cons_zero, List.set_cons_succ]) (hCont (gb237) _ ⟨hHeld, (by (with_reducible repeat (first | apply Kd.R_alloc | apply Kd.R_drewN | apply Kd.R_drew)); exact Kd.R_mono HO_5.out (fun _ hk => hk.2)), (by (with_reducible repeat (first | refine blk_drewN ?_ _ | refine blk_drew ?_ | refine blk_alloc ?_ _)); exact BK224.out), (by (with_reducible repeat (first | refine blk_drewN ?_ _ | refine blk_drew ?_ | refine blk_alloc ?_ _)); exact BK225.out), (by (with_reducible repeat (first | refine blk_drewN ?_ _ | refine blk_drew ?_ | refine blk_alloc ?_ _)); exact BK237.out), GW237.out, GE237.out, NB224_237.out, NB237_224.out, NB225_237.out, NB237_225.out, (by repeat (first | (with_reducible first | exact HB.out | apply below_alloc | apply pw_below_drewN | apply below_drew1 | refine below_set ?_ GE224.out | refine below_set ?_ GE225.out | refine below_set ?_ GE237.out) | exact HB.out))⟩)
                                · skip
                                  refine box_step ?hg (N := 12) ?hd (cs := #[.int .i64 0, .string (⟨#[]⟩ : ByteArray), .int .u16 0, .int .i64 0, .int .i64 0]) (t := 30) ?hr ?_; (case hd => rfl); (case hg => rfl); (case hr => first | (go_simp; done) | (go_simp; rfl))
                                  intro gb237 hg w40 hbox hb
                                  have n0_ := Aside0.mk (Kd.R_below (Kd.R_elderB (by (with_reducible repeat (first | apply Kd.R_alloc | apply Kd.R_drewN | apply Kd.R_drew)); exact HO_5.out) gb237 (Nat.le_of_eq hg.symm)) hb)
                                  have n1_ := Aside0.mk (blk_below (g := gb224) (o := .cells #[.int .i64 x225000_1, .int .i64 x225001_1] 24 (0, 0)) (by (with_reducible repeat (first | refine blk_drewN ?_ _ | refine blk_drew ?_ | refine blk_alloc ?_ _)); exact BK224.out) hb)
                                  have n2_ := Aside0.mk (blk_below (g := gb225) (o := .cells #[.int .i64 x6_1, .int .i64 (wrap64 ((wrap64 (x8_1 - x7_1)) + 1))] 24 (0, 0)) (by (with_reducible repeat (first | refine blk_drewN ?_ _ | refine blk_drew ?_ | refine blk_alloc ?_ _)); exact BK225.out) hb)
                                  have n3_ := Aside0.mk (below_step (by repeat (first | (with_reducible first | exact HB.out | apply below_alloc | apply pw_below_drewN | apply below_drew1 | refine below_set ?_ GE224.out | refine below_set ?_ GE225.out) | exact HB.out)) hb)
                                  have n4_ := Aside0.mk (hbox)
                                  have n5_ := Aside0.mk ((by rw [hg]; exact (below_size (by repeat (first | (with_reducible first | exact HB.out | apply below_alloc | apply pw_below_drewN | apply below_drew1 | refine below_set ?_ GE224.out | refine below_set ?_ GE225.out) | exact HB.out))) : w.heap.size ≤ gb237))
                                  have n6_ := Aside0.mk ((by rw [hg]; exact (below_size (by repeat (first | (with_reducible first | exact HB.out | apply below_alloc | apply pw_below_drewN | apply below_drew1 | refine below_set ?_ GE224.out | refine below_set ?_ GE225.out) | exact HB.out))) : w.heap.size ≤ gb237))
                                  have n7_ := Aside0.mk ((by rw [hg]; exact Nat.ne_of_lt (blk_lt (g := gb224) (o := .cells #[.int .i64 x225000_1, .int .i64 x225001_1] 24 (0, 0)) (by (with_reducible repeat (first | refine blk_drewN ?_ _ | refine blk_drew ?_ | refine blk_alloc ?_ _)); exact BK224.out)) : gb224 ≠ gb237))
                                  have n8_ := Aside0.mk ((by rw [hg]; exact Nat.ne_of_gt (blk_lt (g := gb224) (o := .cells #[.int .i64 x225000_1, .int .i64 x225001_1] 24 (0, 0)) (by (with_reducible repeat (first | refine blk_drewN ?_ _ | refine blk_drew ?_ | refine blk_alloc ?_ _)); exact BK224.out)) : gb237 ≠ gb224))
                                  have n9_ := Aside0.mk ((by rw [hg]; exact Nat.ne_of_lt (blk_lt (g := gb225) (o := .cells #[.int .i64 x6_1, .int .i64 (wrap64 ((wrap64 (x8_1 - x7_1)) + 1))] 24 (0, 0)) (by (with_reducible repeat (first | refine blk_drewN ?_ _ | refine blk_drew ?_ | refine blk_alloc ?_ _)); exact BK225.out)) : gb225 ≠ gb237))
                                  have n10_ := Aside0.mk ((by rw [hg]; exact Nat.ne_of_gt (blk_lt (g := gb225) (o := .cells #[.int .i64 x6_1, .int .i64 (wrap64 ((wrap64 (x8_1 - x7_1)) + 1))] 24 (0, 0)) (by (with_reducible repeat (first | refine blk_drewN ?_ _ | refine blk_drew ?_ | refine blk_alloc ?_ _)); exact BK225.out)) : gb237 ≠ gb225))
                                  clear HO_5
                                  clear BK224
                                  clear BK225
                                  clear HB
                                  have HO_5 := n0_
                                  have BK224 := n1_
                                  have BK225 := n2_
                                  have HB := n3_
                                  have BK237 := n4_
                                  have GW237 := n5_
                                  have GE237 := n6_
                                  have NB224_237 := n7_
                                  have NB237_224 := n8_
                                  have NB225_237 := n9_
                                  have NB237_225 := n10_
                                  clear n0_ n1_ n2_ n3_ n4_ n5_ n6_ n7_ n8_ n9_ n10_
                                  clear hb hbox hg
                                  refine hK.out _ _ ⟨(blk_cell BK225.out 0).trans rfl, (blk_cell BK225.out 1).trans rfl⟩ (fun hHeld => ?_)
                                  clear hK K
                                  refine norm_ (a' := ?_) ?_ ?_
                                  rotate_left
                                  · show Act.put _ (some 12) _ = _
                                    simp only [Act.put, List.setIfInBounds_toArray, List.set_cons_zero, List.set_cons_succ, i64_w, i32_w]
                                    rfl
                                  refine one_ (i := 5) (N := some 43) #[true, true, true, true, true, true, false, false, false, true, false, false] rfl rfl (one_of HT_.out (by kernel_rfl)) (by decide) (fun K hK => ?_)
                                  refine goes_ Try.func30 (by kernel_rfl) rfl #[.string (a0.extract (x8_1 : Int).toNat (t228 : Int).toNat), .agg #[.int .i64 x6_1, .int .i64 (wrap64 ((wrap64 (x8_1 - x7_1)) + 1))]] (by rfl) rfl rfl (by (try simp only [List.map_toArray, List.map_cons, List.map_nil]); first | done | rfl | (simp only [List.length_drop, List.length_take]; rfl)) ?_
                                  with_reducible refine (wispref09_token.calls k1 (a0.extract (x8_1 : Int).toNat (t228 : Int).toNat) x6_1 (wrap64 ((wrap64 (x8_1 - x7_1)) + 1)) t231 t232 t233 t234 t235 t236 _ A35.out).mono ?_
                                  rintro e w41 ⟨rfl, hb⟩
                                  refine ⟨_, rfl, ?_⟩
                                  have n0_ := Aside0.mk (Kd.R_below (by (with_reducible repeat (first | apply Kd.R_alloc | apply Kd.R_drewN | apply Kd.R_drew)); exact HO_5.out) hb)
                                  have n1_ := Aside0.mk (blk_below (g := gb224) (o := .cells #[.int .i64 x225000_1, .int .i64 x225001_1] 24 (0, 0)) (by (with_reducible repeat (first | refine blk_drewN ?_ _ | refine blk_drew ?_ | refine blk_alloc ?_ _)); exact BK224.out) hb)
                                  have n2_ := Aside0.mk (blk_below (g := gb225) (o := .cells #[.int .i64 x6_1, .int .i64 (wrap64 ((wrap64 (x8_1 - x7_1)) + 1))] 24 (0, 0)) (by (with_reducible repeat (first | refine blk_drewN ?_ _ | refine blk_drew ?_ | refine blk_alloc ?_ _)); exact BK225.out) hb)
                                  have n3_ := Aside0.mk (blk_below (g := gb237) (o := .cells #[.int .i64 0, .string (⟨#[]⟩ : ByteArray), .int .u16 0, .int .i64 0, .int .i64 0] 30 (0, 0)) (by (with_reducible repeat (first | refine blk_drewN ?_ _ | refine blk_drew ?_ | refine blk_alloc ?_ _)); exact BK237.out) hb)
                                  have n4_ := Aside0.mk (below_step (by repeat (first | (with_reducible first | exact HB.out | apply below_alloc | apply pw_below_drewN | apply below_drew1 | refine below_set ?_ GE224.out | refine below_set ?_ GE225.out | refine below_set ?_ GE237.out) | exact HB.out)) hb)
                                  clear HO_5
                                  clear BK224
                                  clear BK225
                                  clear BK237
                                  clear HB
                                  have HO_5 := n0_
                                  have BK224 := n1_
                                  have BK225 := n2_
                                  have BK237 := n3_
                                  have HB := n4_
                                  clear n0_ n1_ n2_ n3_ n4_
                                  (try clear hb)
                                  (try clear hb2)
                                  (try clear hk)
                                  (try clear hi)
                                  refine hK.out _ _ ⟨(blk_cell BK225.out 0).trans rfl, (blk_cell BK225.out 1).trans rfl⟩ (fun hHeld => ?_)
                                  clear hK K
                                  refine norm_ (a' := ?_) ?_ ?_
                                  rotate_left
                                  · show Act.put _ (some 43) _ = _
                                    simp only [Act.put, List.setIfInBounds_toArray, List.set_cons_zero, List.set_cons_succ, i64_w, i32_w]
                                    rfl
                                  refine pure_ (i := 6) (N := some 37) (v := ?_) (a' := ?_) #[true, true, true, true, true, true, true, false, false, true, false, false] rfl rfl (any_of HT_.out (by kernel_rfl)) (fun _ _ _ h => h) (Or.inl ⟨by rfl, ?_⟩) ?_ ?_
                                  rotate_left
                                  · intro w'
                                    go_simp
                                    with_reducible rfl
                                  rotate_left
                                  · simp only [Act.put, List.setIfInBounds_toArray, List.set_cons_zero, List.set_cons_succ, i64_w, i32_w]
                                    rfl
                                  refine pure_ (i := 7) (N := some 44) (v := ?_) (a' := ?_) #[true, true, true, true, true, true, true, true, false, true, false, false] rfl rfl (any_of HT_.out (by kernel_rfl)) (fun _ _ _ h => h) (Or.inl ⟨by rfl, ?_⟩) ?_ ?_
                                  rotate_left
                                  · intro w'
                                    go_simp
                                    with_reducible rfl
                                  rotate_left
                                  · simp only [Act.put, List.setIfInBounds_toArray, List.set_cons_zero, List.set_cons_succ, i64_w, i32_w]
                                    rfl
                                  refine pure_ (i := 8) (N := some 45) (v := ?_) (a' := ?_) #[true, true, true, true, true, true, true, true, true, true, false, false] rfl rfl (any_of HT_.out (by kernel_rfl)) (fun _ _ _ h => h) (Or.inl ⟨by rfl, ?_⟩) ?_ ?_
                                  rotate_left
                                  · intro w'
                                    go_simp
                                    with_reducible rfl
                                  rotate_left
                                  · simp only [Act.put, List.setIfInBounds_toArray, List.set_cons_zero, List.set_cons_succ, i64_w, i32_w]
                                    rfl
                                  exact norm_ (by simp only [putAll, Act.put, List.setIfInBounds_toArray, List.set_cons_zero, List.set_cons_succ]) (hCont (gb237) _ ⟨hHeld, (by (with_reducible repeat (first | apply Kd.R_alloc | apply Kd.R_drewN | apply Kd.R_drew)); exact Kd.R_mono HO_5.out (fun _ hk => hk.2)), (by (with_reducible repeat (first | refine blk_drewN ?_ _ | refine blk_drew ?_ | refine blk_alloc ?_ _)); exact BK224.out), (by (with_reducible repeat (first | refine blk_drewN ?_ _ | refine blk_drew ?_ | refine blk_alloc ?_ _)); exact BK225.out), (by (with_reducible repeat (first | refine blk_drewN ?_ _ | refine blk_drew ?_ | refine blk_alloc ?_ _)); exact BK237.out), GW237.out, GE237.out, NB224_237.out, NB237_224.out, NB225_237.out, NB237_225.out, (by repeat (first | (with_reducible first | exact HB.out | apply below_alloc | apply pw_below_drewN | apply below_drew1 | refine below_set ?_ GE224.out | refine below_set ?_ GE225.out | refine below_set ?_ GE237.out) | exact HB.out))⟩)
                              rintro gb237 w42 ⟨hS_, h0_, h1_, h2_, h3_, h4_, h5_, h6_, h7_, h8_, h9_, h10_⟩
                              have n0_ : Aside0 (Kd.R k30 30 w42 w.heap.size (fun k_ => k_ ≠ gb237) u5 x5_1) := ⟨h0_⟩
                              have n1_ : Aside0 (w42.heap[gb224]? = some (.cells #[.int .i64 x225000_1, .int .i64 x225001_1] 24 (0, 0))) := ⟨h1_⟩
                              have n2_ : Aside0 (w42.heap[gb225]? = some (.cells #[.int .i64 x6_1, .int .i64 (wrap64 ((wrap64 (x8_1 - x7_1)) + 1))] 24 (0, 0))) := ⟨h2_⟩
                              have n3_ : Aside0 (w42.heap[gb237]? = some (.cells #[.int .i64 0, .string (⟨#[]⟩ : ByteArray), .int .u16 0, .int .i64 0, .int .i64 0] 30 (0, 0))) := ⟨h3_⟩
                              have n4_ : Aside0 (w.heap.size ≤ gb237) := ⟨h4_⟩
                              have n5_ : Aside0 (w.heap.size ≤ gb237) := ⟨h5_⟩
                              have n6_ : Aside0 (gb224 ≠ gb237) := ⟨h6_⟩
                              have n7_ : Aside0 (gb237 ≠ gb224) := ⟨h7_⟩
                              have n8_ : Aside0 (gb225 ≠ gb237) := ⟨h8_⟩
                              have n9_ : Aside0 (gb237 ≠ gb225) := ⟨h9_⟩
                              have n10_ : Aside0 (Below w.heap.size w w42) := ⟨h10_⟩
                              clear HO_5
                              clear BK224
                              clear BK225
                              clear HB
                              clear h0_ h1_ h2_ h3_ h4_ h5_ h6_ h7_ h8_ h9_ h10_
                              have HO_5 := n0_
                              have BK224 := n1_
                              have BK225 := n2_
                              have BK237 := n3_
                              have GW237 := n4_
                              have GE237 := n5_
                              have NB224_237 := n6_
                              have NB237_224 := n7_
                              have NB225_237 := n8_
                              have NB237_225 := n9_
                              have HB := n10_
                              clear n0_ n1_ n2_ n3_ n4_ n5_ n6_ n7_ n8_ n9_ n10_
                              have hHeld : w42.cell? ⟨gb225, 0, none⟩ = some (.int .i64 x6_1) ∧ w42.cell? ⟨gb225, 1, none⟩ = some (.int .i64 (wrap64 ((wrap64 (x8_1 - x7_1)) + 1))) := hS_
                              refine norm_ (a' := ?_) ?_ ?_
                              rotate_left
                              · simp only [putAll, Act.put, List.setIfInBounds_toArray, List.set_cons_zero, List.set_cons_succ]
                                rfl
                              refine one_ (i := 10) (N := none) #[true, true, true, true, true, true, true, true, true, true, true, false] rfl rfl (one_of HT_.out (by kernel_rfl)) (by decide) (fun K hK => ?_)
                              have hs43 : w42.cell? ⟨gb237, 0, none⟩ = some (.int .i64 0) := (blk_cell BK237.out 0).trans rfl
                              have hfs43 := blk_frozen BK237.out 0
                              have hns43_0 := NB224_237.out
                              have hns43_1 := NB225_237.out
                              have hms43_0 := NB237_224.out
                              have hms43_1 := NB237_225.out
                              have hs44 : w42.cell? ⟨gb237, 1, none⟩ = some (.string (⟨#[]⟩ : ByteArray)) := (blk_cell BK237.out 1).trans rfl
                              have hfs44 := blk_frozen BK237.out 1
                              have hns44_0 := NB224_237.out
                              have hns44_1 := NB225_237.out
                              have hms44_0 := NB237_224.out
                              have hms44_1 := NB237_225.out
                              have hs45 : w42.cell? ⟨gb237, 2, none⟩ = some (.int .u16 0) := (blk_cell BK237.out 2).trans rfl
                              have hfs45 := blk_frozen BK237.out 2
                              have hns45_0 := NB224_237.out
                              have hns45_1 := NB225_237.out
                              have hms45_0 := NB237_224.out
                              have hms45_1 := NB237_225.out
                              have hs46 : w42.cell? ⟨gb237, 3, none⟩ = some (.int .i64 0) := (blk_cell BK237.out 3).trans rfl
                              have hfs46 := blk_frozen BK237.out 3
                              have hns46_0 := NB224_237.out
                              have hns46_1 := NB225_237.out
                              have hms46_0 := NB237_224.out
                              have hms46_1 := NB237_225.out
                              have hs47 : w42.cell? ⟨gb237, 4, none⟩ = some (.int .i64 0) := (blk_cell BK237.out 4).trans rfl
                              have hfs47 := blk_frozen BK237.out 4
                              have hns47_0 := NB224_237.out
                              have hns47_1 := NB225_237.out
                              have hms47_0 := NB237_224.out
                              have hms47_1 := NB237_225.out
                              refine skip_ (w1 := ?_) (by rfl) rfl ?_ ?_
                              rotate_left
                              · go_simp
                                rfl
                              refine hK.out _ _ ⟨((cell_far (p := ⟨gb237, _, none⟩) NB225_237.out _).trans (((cell_far (p := ⟨gb237, _, none⟩) NB225_237.out _).trans (((cell_far (p := ⟨gb237, _, none⟩) NB225_237.out _).trans (((cell_far (p := ⟨gb237, _, none⟩) NB225_237.out _).trans (((cell_far (p := ⟨gb237, _, none⟩) NB225_237.out _).trans (hHeld.1)))))))))), ((cell_far (p := ⟨gb237, _, none⟩) NB225_237.out _).trans (((cell_far (p := ⟨gb237, _, none⟩) NB225_237.out _).trans (((cell_far (p := ⟨gb237, _, none⟩) NB225_237.out _).trans (((cell_far (p := ⟨gb237, _, none⟩) NB225_237.out _).trans (((cell_far (p := ⟨gb237, _, none⟩) NB225_237.out _).trans (hHeld.2))))))))))⟩ (fun hHeld => ?_)
                              clear hK K
                              refine pure_ (i := 11) (N := some 13) (v := ?_) (a' := ?_) #[true, true, true, true, true, true, true, true, true, true, true, true] rfl rfl (any_of HT_.out (by kernel_rfl)) (fun _ _ _ h => h) (Or.inl ⟨by rfl, ?_⟩) ?_ ?_
                              rotate_left
                              · intro w'
                                go_simp
                                with_reducible rfl
                              rotate_left
                              · simp only [Act.put, List.setIfInBounds_toArray, List.set_cons_zero, List.set_cons_succ, i64_w, i32_w]
                                rfl
                              refine done_ (done_of HT_.out (by kernel_rfl)) ?_
                              have hnb48 := NB237_224.out
                              have hnc48 := NB224_237.out
                              have hnb49 := NB237_225.out
                              have hnc49 := NB225_237.out
                              have hcz50_0 : w42.cell? ⟨gb237, 0, none⟩ = some (.int .i64 0) := (blk_cell BK237.out 0).trans rfl
                              have hcz50_1 : w42.cell? ⟨gb237, 1, none⟩ = some (.string (⟨#[]⟩ : ByteArray)) := (blk_cell BK237.out 1).trans rfl
                              have hcz50_2 : w42.cell? ⟨gb237, 2, none⟩ = some (.int .u16 0) := (blk_cell BK237.out 2).trans rfl
                              have hcz50_3 : w42.cell? ⟨gb237, 3, none⟩ = some (.int .i64 0) := (blk_cell BK237.out 3).trans rfl
                              have hcz50_4 : w42.cell? ⟨gb237, 4, none⟩ = some (.int .i64 0) := (blk_cell BK237.out 4).trans rfl
                              have hfz50_0 := blk_frozen BK237.out 0
                              have hfz50_1 := blk_frozen BK237.out 1
                              have hfz50_2 := blk_frozen BK237.out 2
                              have hfz50_3 := blk_frozen BK237.out 3
                              have hfz50_4 := blk_frozen BK237.out 4
                              try go_wp2_with (first | ((with_reducible refine gate_builtin (b := .append) (xs := #[.tmp 50, .tmp 52]) rfl ?_); at_builtin; refine Kd.R_append k30 (w0 := w) w.heap.size rfl (.tmp 50) (.tmp 52) 22 30 (.agg #[(.int .i64 0), (.string ⟨#[]⟩), (.int .u16 0), (.int .i64 0), (.int .i64 0)]) 48 rfl Try.underlying22 info30 rfl (by decide) (by omega) u5 x5_1 (⟨t231, t232, t233, (⟨t234, t235⟩ : S24)⟩ : S30) [.int .i64 t231, .string t232, .int .u16 t233, .int .i64 t234, .int .i64 t235] (fun k_ => k_ ≠ gb237) (fun _ => False) rfl (by first | (go_simp; done) | (go_simp; rfl)) ?aP (fun _ hk => hk.elim) ?aF ?aO ?aB ?aS ?aL ?_; (case aP => exact k30_mkM _ _ _ (⟨t231, t232, t233, (⟨t234, t235⟩ : S24)⟩ : S30)); (case aB => exact (by repeat (first | (with_reducible first | exact HB.out | apply below_alloc | apply pw_below_drewN | apply below_drew1 | refine below_set ?_ GE224.out | refine below_set ?_ GE225.out | refine below_set ?_ GE237.out) | exact HB.out))); (case aF => exact (fun k_ hk => Kd.freshB (g := gb237) (o := .cells #[.int .i64 t231, .string t232, .int .u16 t233, .int .i64 t234, .int .i64 t235] 30 (0, 0)) (by (with_reducible repeat (first | refine blk_drewN ?_ _ | refine blk_drew ?_ | refine blk_alloc ?_ _)); refine blk_put (cs := #[.int .i64 t231, .string t232, .int .u16 t233, .int .i64 t234, .int .i64 0]) ?_ 4 _ rfl; (with_reducible repeat (first | refine blk_drewN ?_ _ | refine blk_drew ?_ | refine blk_alloc ?_ _)); refine blk_put (cs := #[.int .i64 t231, .string t232, .int .u16 t233, .int .i64 0, .int .i64 0]) ?_ 3 _ rfl; (with_reducible repeat (first | refine blk_drewN ?_ _ | refine blk_drew ?_ | refine blk_alloc ?_ _)); refine blk_put (cs := #[.int .i64 t231, .string t232, .int .u16 0, .int .i64 0, .int .i64 0]) ?_ 2 _ rfl; (with_reducible repeat (first | refine blk_drewN ?_ _ | refine blk_drew ?_ | refine blk_alloc ?_ _)); refine blk_put (cs := #[.int .i64 t231, .string (⟨#[]⟩ : ByteArray), .int .u16 0, .int .i64 0, .int .i64 0]) ?_ 1 _ rfl; (with_reducible repeat (first | refine blk_drewN ?_ _ | refine blk_drew ?_ | refine blk_alloc ?_ _)); refine blk_put (cs := #[.int .i64 0, .string (⟨#[]⟩ : ByteArray), .int .u16 0, .int .i64 0, .int .i64 0]) ?_ 0 _ rfl; (with_reducible repeat (first | refine blk_drewN ?_ _ | refine blk_drew ?_ | refine blk_alloc ?_ _)); exact BK237.out) k_ hk)); (case aO => exact (by (with_reducible repeat (first | apply Kd.R_alloc | apply Kd.R_drewN | apply Kd.R_drew)); exact Kd.R_mono (Kd.R_far (p := ⟨gb237, 4, none⟩) (Kd.R_far (p := ⟨gb237, 3, none⟩) (Kd.R_far (p := ⟨gb237, 2, none⟩) (Kd.R_far (p := ⟨gb237, 1, none⟩) (Kd.R_far (p := ⟨gb237, 0, none⟩) (Kd.R_mono HO_5.out (fun k_ hk => (⟨hk, hk⟩ : _ ∧ k_ ≠ gb237))) (fun _ hk => hk.2) (.int .i64 t231)) (fun _ hk => hk.2) (.string t232)) (fun _ hk => hk.2) (.int .u16 t233)) (fun _ hk => hk.2) (.int .i64 t234)) (fun _ hk => hk.2) (.int .i64 t235)) (fun _ hk => hk.1))); (case aS => exact (below_size (by repeat (first | (with_reducible first | exact HB.out | apply below_alloc | apply pw_below_drewN | apply below_drew1 | refine below_set ?_ GE224.out | refine below_set ?_ GE225.out | refine below_set ?_ GE237.out) | exact HB.out)))); (case aL => have := LMc37.out; omega); intro v239 w51 ho hb hg hat; rw [← Ny238.out] at ho; have n0_ := Aside0.mk (blk_grown (g := gb224) (o := .cells #[.int .i64 x225000_1, .int .i64 x225001_1] 24 (0, 0)) (by (with_reducible repeat (first | refine blk_drewN ?_ _ | refine blk_drew ?_ | refine blk_alloc ?_ _)); refine blk_far ?_ NB224_237.out _; (with_reducible repeat (first | refine blk_drewN ?_ _ | refine blk_drew ?_ | refine blk_alloc ?_ _)); refine blk_far ?_ NB224_237.out _; (with_reducible repeat (first | refine blk_drewN ?_ _ | refine blk_drew ?_ | refine blk_alloc ?_ _)); refine blk_far ?_ NB224_237.out _; (with_reducible repeat (first | refine blk_drewN ?_ _ | refine blk_drew ?_ | refine blk_alloc ?_ _)); refine blk_far ?_ NB224_237.out _; (with_reducible repeat (first | refine blk_drewN ?_ _ | refine blk_drew ?_ | refine blk_alloc ?_ _)); refine blk_far ?_ NB224_237.out _; (with_reducible repeat (first | refine blk_drewN ?_ _ | refine blk_drew ?_ | refine blk_alloc ?_ _)); exact BK224.out) hg (Kd.R_ne HO_5.out BK224.out (by decide))); have n1_ := Aside0.mk (blk_grown (g := gb225) (o := .cells #[.int .i64 x6_1, .int .i64 (wrap64 ((wrap64 (x8_1 - x7_1)) + 1))] 24 (0, 0)) (by (with_reducible repeat (first | refine blk_drewN ?_ _ | refine blk_drew ?_ | refine blk_alloc ?_ _)); refine blk_far ?_ NB225_237.out _; (with_reducible repeat (first | refine blk_drewN ?_ _ | refine blk_drew ?_ | refine blk_alloc ?_ _)); refine blk_far ?_ NB225_237.out _; (with_reducible repeat (first | refine blk_drewN ?_ _ | refine blk_drew ?_ | refine blk_alloc ?_ _)); refine blk_far ?_ NB225_237.out _; (with_reducible repeat (first | refine blk_drewN ?_ _ | refine blk_drew ?_ | refine blk_alloc ?_ _)); refine blk_far ?_ NB225_237.out _; (with_reducible repeat (first | refine blk_drewN ?_ _ | refine blk_drew ?_ | refine blk_alloc ?_ _)); refine blk_far ?_ NB225_237.out _; (with_reducible repeat (first | refine blk_drewN ?_ _ | refine blk_drew ?_ | refine blk_alloc ?_ _)); exact BK225.out) hg (Kd.R_ne HO_5.out BK225.out (by decide))); have n2_ := Aside0.mk (blk_grown (g := gb237) (o := .cells #[.int .i64 t231, .string t232, .int .u16 t233, .int .i64 t234, .int .i64 t235] 30 (0, 0)) (by (with_reducible repeat (first | refine blk_drewN ?_ _ | refine blk_drew ?_ | refine blk_alloc ?_ _)); refine blk_put (cs := #[.int .i64 t231, .string t232, .int .u16 t233, .int .i64 t234, .int .i64 0]) ?_ 4 _ rfl; (with_reducible repeat (first | refine blk_drewN ?_ _ | refine blk_drew ?_ | refine blk_alloc ?_ _)); refine blk_put (cs := #[.int .i64 t231, .string t232, .int .u16 t233, .int .i64 0, .int .i64 0]) ?_ 3 _ rfl; (with_reducible repeat (first | refine blk_drewN ?_ _ | refine blk_drew ?_ | refine blk_alloc ?_ _)); refine blk_put (cs := #[.int .i64 t231, .string t232, .int .u16 0, .int .i64 0, .int .i64 0]) ?_ 2 _ rfl; (with_reducible repeat (first | refine blk_drewN ?_ _ | refine blk_drew ?_ | refine blk_alloc ?_ _)); refine blk_put (cs := #[.int .i64 t231, .string (⟨#[]⟩ : ByteArray), .int .u16 0, .int .i64 0, .int .i64 0]) ?_ 1 _ rfl; (with_reducible repeat (first | refine blk_drewN ?_ _ | refine blk_drew ?_ | refine blk_alloc ?_ _)); refine blk_put (cs := #[.int .i64 0, .string (⟨#[]⟩ : ByteArray), .int .u16 0, .int .i64 0, .int .i64 0]) ?_ 0 _ rfl; (with_reducible repeat (first | refine blk_drewN ?_ _ | refine blk_drew ?_ | refine blk_alloc ?_ _)); exact BK237.out) hg (Kd.R_away HO_5.out (fun _ hk => hk))); have n3_ := Aside0.mk (hb); have n4_ := Aside0.mk (ho); clear BK224; clear BK225; clear BK237; clear HB; clear HO_5; have BK224 := n0_; have BK225 := n1_; have BK237 := n2_; have HB := n3_; have HO240 := n4_; clear n0_ n1_ n2_ n3_ n4_; clear ho hb hg hat))
                              go_meet
                              case rel => exact ⟨_, (y238), (t228), (x225000_1), (x225001_1), (by first | rfl | (simp; done) | (simp [*]; done) | (simp [isEmpty_ne]; done)), H', ⟨by have := HK1.out; first | omega | exact Nat.le_refl _⟩, ⟨by (with_reducible repeat (first | apply Kd.R_alloc | apply Kd.R_drewN | apply Kd.R_drew)); exact Kd.R_mono HO240.out (fun _ hk => trivial)⟩, ⟨by (with_reducible repeat (first | refine blk_drewN ?_ _ | refine blk_drew ?_ | refine blk_alloc ?_ _)); exact BK224.out⟩, ⟨by (with_reducible repeat (first | refine blk_drewN ?_ _ | refine blk_drew ?_ | refine blk_alloc ?_ _)); exact BK225.out⟩, ⟨by repeat (first | (with_reducible first | exact HB.out | apply below_alloc | apply pw_below_drewN | apply below_drew1 | refine below_set ?_ GE224.out | refine below_set ?_ GE225.out | refine below_set ?_ GE237.out) | exact HB.out)⟩⟩
                            · rw [if_neg c37] at H
                              exact absurd H (by simp)
                          · rw [if_neg c36] at H
                            have c36b0 : (t236 == 0) = false := beq_eq_false_iff_ne.mpr c36
                            have c36b1 : (t236 != 0) = true := bne_iff_ne.mpr c36
                            simp only [Option.some.injEq, Prod.mk.injEq] at H
                            obtain ⟨rfl, rfl, rfl, rfl⟩ := H
                            have p12 : 0 ≤ (x8_1 : Int) := of_decide_eq_true (by first | (with_reducible assumption) | assumption)
                            have q12 : x8_1 < (a0.size : Int) := of_decide_eq_true (by first | (with_reducible assumption) | assumption)
                            have hx12 := bt_at a0 x8_1
                            replace p12 := eq_true p12
                            replace q12 := eq_true q12
                            try go_wp2_with (first | ((with_reducible refine gate_callee (f := 26) rfl ?_); refine goesL_ (some 76) rfl rfl Try.func26 (by kernel_rfl) rfl #[.int .u8 (bt a0 x8_1)] rfl (by (try simp only [List.map_toArray, List.map_cons, List.map_nil]); first | done | rfl | (simp only [List.length_drop, List.length_take]; rfl)) ?_; (with_reducible refine (wispref09_blank.calls (bt a0 x8_1) false _ A13.out).mono ?_); rintro e w' ⟨rfl, ⟨nd, rfl⟩⟩; refine ⟨_, rfl, ?_⟩; have p15 : 0 ≤ (x8_1 : Int) := of_decide_eq_true (by first | (with_reducible assumption) | assumption); have q15 : x8_1 < (a0.size : Int) := of_decide_eq_true (by first | (with_reducible assumption) | assumption); have hx15 := bt_at a0 x8_1; replace p15 := eq_true p15; replace q15 := eq_true q15) | ((with_reducible refine gate_callee (f := 27) rfl ?_); refine goesL_ (some 83) rfl rfl Try.func27 (by kernel_rfl) rfl #[.int .u8 (bt a0 x8_1)] rfl (by (try simp only [List.map_toArray, List.map_cons, List.map_nil]); first | done | rfl | (simp only [List.length_drop, List.length_take]; rfl)) ?_; (with_reducible refine (wispref09_letter.calls (bt a0 x8_1) true _ A16.out).mono ?_); rintro e w' ⟨rfl, ⟨nd, rfl⟩⟩; refine ⟨_, rfl, ?_⟩) | ((with_reducible refine gate_callee (f := 28) rfl ?_); refine goesL_ (some 32) rfl rfl Try.func28 (by kernel_rfl) rfl #[.string a0, .int .i64 x8_1] rfl (by (try simp only [List.map_toArray, List.map_cons, List.map_nil]); first | done | rfl | (simp only [List.length_drop, List.length_take]; rfl)) ?_; (with_reducible refine (wispref09_word.calls k1 a0 x8_1 t228 _ A18.out).mono ?_); rintro e w' ⟨rfl, ⟨nd, rfl⟩⟩; refine ⟨_, rfl, ?_⟩))
                            have n0_ : Aside0 (Kd.R k30 30 ((w8.setCell ⟨gb225, 0, none⟩ (.int .i64 x6_1)).setCell ⟨gb225, 1, none⟩ (.int .i64 (wrap64 ((wrap64 (x8_1 - x7_1)) + 1)))) w.heap.size (fun _ => True) u5 x5_1) := ⟨by (with_reducible repeat (first | apply Kd.R_alloc | apply Kd.R_drewN | apply Kd.R_drew)); exact Kd.R_mono (Kd.R_far (p := ⟨gb225, 1, none⟩) (Kd.R_far (p := ⟨gb225, 0, none⟩) (Kd.R_types HO_5.out BK225.out (by decide)) (fun _ hk => hk.2) (.int .i64 x6_1)) (fun _ hk => hk.2) (.int .i64 (wrap64 ((wrap64 (x8_1 - x7_1)) + 1)))) (fun _ hk => trivial)⟩
                            have n1_ : Aside0 (((w8.setCell ⟨gb225, 0, none⟩ (.int .i64 x6_1)).setCell ⟨gb225, 1, none⟩ (.int .i64 (wrap64 ((wrap64 (x8_1 - x7_1)) + 1)))).heap[gb224]? = some (.cells #[.int .i64 x225000_1, .int .i64 x225001_1] 24 (0, 0))) := ⟨by (with_reducible repeat (first | refine blk_drewN ?_ _ | refine blk_drew ?_ | refine blk_alloc ?_ _)); refine blk_far ?_ NB224_225.out _; (with_reducible repeat (first | refine blk_drewN ?_ _ | refine blk_drew ?_ | refine blk_alloc ?_ _)); refine blk_far ?_ NB224_225.out _; (with_reducible repeat (first | refine blk_drewN ?_ _ | refine blk_drew ?_ | refine blk_alloc ?_ _)); exact BK224.out⟩
                            have n2_ : Aside0 (((w8.setCell ⟨gb225, 0, none⟩ (.int .i64 x6_1)).setCell ⟨gb225, 1, none⟩ (.int .i64 (wrap64 ((wrap64 (x8_1 - x7_1)) + 1)))).heap[gb225]? = some (.cells #[.int .i64 x6_1, .int .i64 (wrap64 ((wrap64 (x8_1 - x7_1)) + 1))] 24 (0, 0))) := ⟨by (with_reducible repeat (first | refine blk_drewN ?_ _ | refine blk_drew ?_ | refine blk_alloc ?_ _)); refine blk_put (cs := #[.int .i64 x6_1, .int .i64 0]) ?_ 1 _ rfl; (with_reducible repeat (first | refine blk_drewN ?_ _ | refine blk_drew ?_ | refine blk_alloc ?_ _)); refine blk_put (cs := #[.int .i64 0, .int .i64 0]) ?_ 0 _ rfl; (with_reducible repeat (first | refine blk_drewN ?_ _ | refine blk_drew ?_ | refine blk_alloc ?_ _)); exact BK225.out⟩
                            have n3_ : Aside0 (Below w.heap.size w ((w8.setCell ⟨gb225, 0, none⟩ (.int .i64 x6_1)).setCell ⟨gb225, 1, none⟩ (.int .i64 (wrap64 ((wrap64 (x8_1 - x7_1)) + 1))))) := ⟨by repeat (first | (with_reducible first | exact HB.out | apply below_alloc | apply pw_below_drewN | apply below_drew1 | refine below_set ?_ GE224.out | refine below_set ?_ GE225.out) | exact HB.out)⟩
                            (try clear HO_5)
                            (try clear BK224)
                            (try clear BK225)
                            (try clear HB)
                            generalize ((w8.setCell ⟨gb225, 0, none⟩ (.int .i64 x6_1)).setCell ⟨gb225, 1, none⟩ (.int .i64 (wrap64 ((wrap64 (x8_1 - x7_1)) + 1)))) = w52 at n0_ n1_ n2_ n3_ ⊢
                            have HO_5 := n0_
                            have BK224 := n1_
                            have BK225 := n2_
                            have HB := n3_
                            clear n0_ n1_ n2_ n3_
                            (try (rw [drewN_self w52]; generalize hq_ : World.drewN w52 _ = w52; have n0_ : Aside0 (Kd.R k30 30 w52 w.heap.size (fun _ => True) u5 x5_1) := ⟨by rw [← hq_]; exact (by (with_reducible repeat (first | apply Kd.R_alloc | apply Kd.R_drewN | apply Kd.R_drew)); exact HO_5.out)⟩; have n1_ : Aside0 (w52.heap[gb224]? = some (.cells #[.int .i64 x225000_1, .int .i64 x225001_1] 24 (0, 0))) := ⟨by rw [← hq_]; exact (by (with_reducible repeat (first | refine blk_drewN ?_ _ | refine blk_drew ?_ | refine blk_alloc ?_ _)); exact BK224.out)⟩; have n2_ : Aside0 (w52.heap[gb225]? = some (.cells #[.int .i64 x6_1, .int .i64 (wrap64 ((wrap64 (x8_1 - x7_1)) + 1))] 24 (0, 0))) := ⟨by rw [← hq_]; exact (by (with_reducible repeat (first | refine blk_drewN ?_ _ | refine blk_drew ?_ | refine blk_alloc ?_ _)); exact BK225.out)⟩; have n3_ : Aside0 (Below w.heap.size w w52) := ⟨by rw [← hq_]; exact (by repeat (first | (with_reducible first | exact HB.out | apply below_alloc | apply pw_below_drewN | apply below_drew1 | refine below_set ?_ GE224.out | refine below_set ?_ GE225.out) | exact HB.out))⟩; clear HO_5 BK224 BK225 HB hq_; have HO_5 := n0_; have BK224 := n1_; have BK225 := n2_; have HB := n3_; clear n0_ n1_ n2_ n3_))
                            have n0_ := Aside0.mk (Kd.R_drew HO_5.out)
                            have n1_ := Aside0.mk (blk_drew BK224.out)
                            have n2_ := Aside0.mk (blk_drew BK225.out)
                            have n3_ := Aside0.mk (below_drew1 HB.out)
                            clear HO_5
                            clear BK224
                            clear BK225
                            clear HB
                            have HO_5 := n0_
                            have BK224 := n1_
                            have BK225 := n2_
                            have HB := n3_
                            clear n0_ n1_ n2_ n3_
                            refine start_ (n := 12) (S := fun w' => w'.cell? ⟨gb225, 0, none⟩ = some (.int .i64 x6_1) ∧ w'.cell? ⟨gb225, 1, none⟩ = some (.int .i64 (wrap64 ((wrap64 (x8_1 - x7_1)) + 1)))) (ds := []) #[false, false, false, false, false, false, false, false, false, false, false, false] (by kernel_rfl) rfl rfl ⟨(blk_cell BK225.out 0).trans rfl, (blk_cell BK225.out 1).trans rfl⟩ (fun hHeld => ?_); refine with_tabW wispref09_Scan.tab11 wispref09_Scan.bits11 (fun HT_ HW_ => ?_)
                            generalize w52.drew = w53 at HO_5 BK224 BK225 HB hHeld ⊢
                            refine pure_ (i := 0) (N := some 38) (v := ?_) (a' := ?_) #[true, false, false, false, false, false, false, false, false, false, false, false] rfl rfl (any_of HT_.out (by kernel_rfl)) (fun _ _ _ h => h) (Or.inl ⟨by rfl, ?_⟩) ?_ ?_
                            rotate_left
                            · intro w'
                              go_simp
                              with_reducible rfl
                            rotate_left
                            · simp only [Act.put, List.setIfInBounds_toArray, List.set_cons_zero, List.set_cons_succ, i64_w, i32_w]
                              rfl
                            refine pure_ (i := 1) (N := some 39) (v := ?_) (a' := ?_) #[true, true, false, false, false, false, false, false, false, false, false, false] rfl rfl (any_of HT_.out (by kernel_rfl)) (fun _ _ _ h => h) (Or.inl ⟨by rfl, ?_⟩) ?_ ?_
                            rotate_left
                            · intro w'
                              go_simp
                              with_reducible rfl
                            rotate_left
                            · simp only [Act.put, List.setIfInBounds_toArray, List.set_cons_zero, List.set_cons_succ, i64_w, i32_w]
                              rfl
                            refine pure_ (i := 2) (N := some 40) (v := ?_) (a' := ?_) #[true, true, true, false, false, false, false, false, false, false, false, false] rfl rfl (any_of HT_.out (by kernel_rfl)) (fun _ _ _ h => h) (Or.inl ⟨by rfl, ?_⟩) ?_ ?_
                            rotate_left
                            · intro w'
                              go_simp
                              with_reducible rfl
                            rotate_left
                            · simp only [Act.put, List.setIfInBounds_toArray, List.set_cons_zero, List.set_cons_succ, i64_w, i32_w]
                              rfl
                            refine pure_ (i := 3) (N := some 41) (v := ?_) (a' := ?_) #[true, true, true, true, false, false, false, false, false, false, false, false] rfl rfl (any_of HT_.out (by kernel_rfl)) (fun _ _ _ h => h) (Or.inl ⟨by rfl, ?_⟩) ?_ ?_
                            rotate_left
                            · intro w'
                              go_simp
                              with_reducible rfl
                            rotate_left
                            · simp only [Act.put, List.setIfInBounds_toArray, List.set_cons_zero, List.set_cons_succ, i64_w, i32_w]
                              rfl
                            refine take_ (i := 4) (N := some 42) (v := ?_) (a' := ?_) #[true, true, true, true, true, false, false, false, false, false, false, false] rfl rfl (take_ofW HT_.out HW_.out (by kernel_rfl)) (fun _ _ _ h => h) (Or.inl ⟨by rfl, ?_⟩) hHeld ?_ ?_
                            rotate_left
                            · rintro w' ⟨s0, s1⟩
                              go_simp
                              with_reducible rfl
                            rotate_left
                            · simp only [Act.put, List.setIfInBounds_toArray, List.set_cons_zero, List.set_cons_succ, i64_w, i32_w]
                              rfl
                            refine join_ (σ := Nat) 2 #[true, true, true, true, true, true, true, true, true, true, false, false] (fun s_ => [(43, .tuple #[.agg #[.int .i64 t231, .string t232, .int .u16 t233, .int .i64 t234, .int .i64 t235], .int .i64 t236]), (12, .pointer (some ⟨s_, 0, none⟩)), (37, .tuple #[.agg #[.int .i64 t231, .string t232, .int .u16 t233, .int .i64 t234, .int .i64 t235], .int .i64 t236]), (44, .agg #[.int .i64 t231, .string t232, .int .u16 t233, .int .i64 t234, .int .i64 t235]), (45, .int .i64 t236)]) (fun s_ w' => (w'.cell? ⟨gb225, 0, none⟩ = some (.int .i64 x6_1) ∧ w'.cell? ⟨gb225, 1, none⟩ = some (.int .i64 (wrap64 ((wrap64 (x8_1 - x7_1)) + 1)))) ∧ (Kd.R k30 30 w' w.heap.size (fun k_ => k_ ≠ s_) u5 x5_1) ∧ (w'.heap[gb224]? = some (.cells #[.int .i64 x225000_1, .int .i64 x225001_1] 24 (0, 0))) ∧ (w'.heap[gb225]? = some (.cells #[.int .i64 x6_1, .int .i64 (wrap64 ((wrap64 (x8_1 - x7_1)) + 1))] 24 (0, 0))) ∧ (w'.heap[s_]? = some (.cells #[.int .i64 0, .string (⟨#[]⟩ : ByteArray), .int .u16 0, .int .i64 0, .int .i64 0] 30 (0, 0))) ∧ (w.heap.size ≤ s_) ∧ (w.heap.size ≤ s_) ∧ (gb224 ≠ s_) ∧ (s_ ≠ gb224) ∧ (gb225 ≠ s_) ∧ (s_ ≠ gb225) ∧ (Below w.heap.size w w')) ?_ ?_
                            rotate_left
                            · intro hCont
                              refine two_ (i := 5) (j := 9) (Ni := some 43) (Nj := some 12) #[true, true, true, true, true, true, false, false, false, false, false, false] #[true, true, true, true, true, false, false, false, false, true, false, false] rfl rfl rfl rfl (two_of HT_.out (by kernel_rfl)) (by decide) (by decide) (fun K hK => ?_) (fun K hK => ?_)
                              · skip
                                refine goes_ Try.func30 (by kernel_rfl) rfl #[.string (a0.extract (x8_1 : Int).toNat (t228 : Int).toNat), .agg #[.int .i64 x6_1, .int .i64 (wrap64 ((wrap64 (x8_1 - x7_1)) + 1))]] (by rfl) rfl rfl (by (try simp only [List.map_toArray, List.map_cons, List.map_nil]); first | done | rfl | (simp only [List.length_drop, List.length_take]; rfl)) ?_
                                with_reducible refine (wispref09_token.calls k1 (a0.extract (x8_1 : Int).toNat (t228 : Int).toNat) x6_1 (wrap64 ((wrap64 (x8_1 - x7_1)) + 1)) t231 t232 t233 t234 t235 t236 _ A35.out).mono ?_
                                rintro e w54 ⟨rfl, hb⟩
                                refine ⟨_, rfl, ?_⟩
                                have n0_ := Aside0.mk (Kd.R_below (by (with_reducible repeat (first | apply Kd.R_alloc | apply Kd.R_drewN | apply Kd.R_drew)); exact HO_5.out) hb)
                                have n1_ := Aside0.mk (blk_below (g := gb224) (o := .cells #[.int .i64 x225000_1, .int .i64 x225001_1] 24 (0, 0)) (by (with_reducible repeat (first | refine blk_drewN ?_ _ | refine blk_drew ?_ | refine blk_alloc ?_ _)); exact BK224.out) hb)
                                have n2_ := Aside0.mk (blk_below (g := gb225) (o := .cells #[.int .i64 x6_1, .int .i64 (wrap64 ((wrap64 (x8_1 - x7_1)) + 1))] 24 (0, 0)) (by (with_reducible repeat (first | refine blk_drewN ?_ _ | refine blk_drew ?_ | refine blk_alloc ?_ _)); exact BK225.out) hb)
                                have n3_ := Aside0.mk (below_step (by repeat (first | (with_reducible first | exact HB.out | apply below_alloc | apply pw_below_drewN | apply below_drew1 | refine below_set ?_ GE224.out | refine below_set ?_ GE225.out) | exact HB.out)) hb)
                                clear HO_5
                                clear BK224
                                clear BK225
                                clear HB
                                have HO_5 := n0_
                                have BK224 := n1_
                                have BK225 := n2_
                                have HB := n3_
                                clear n0_ n1_ n2_ n3_
                                (try clear hb)
                                (try clear hb2)
                                (try clear hk)
                                (try clear hi)
                                refine hK.out _ _ ⟨(blk_cell BK225.out 0).trans rfl, (blk_cell BK225.out 1).trans rfl⟩ (fun hHeld => ?_)
                                clear hK K
                                refine norm_ (a' := ?_) ?_ ?_
                                rotate_left
                                · show Act.put _ (some 43) _ = _
                                  simp only [Act.put, List.setIfInBounds_toArray, List.set_cons_zero, List.set_cons_succ, i64_w, i32_w]
                                  rfl
                                refine pure_ (i := 6) (N := some 37) (v := ?_) (a' := ?_) #[true, true, true, true, true, true, true, false, false, false, false, false] rfl rfl (any_of HT_.out (by kernel_rfl)) (fun _ _ _ h => h) (Or.inl ⟨by rfl, ?_⟩) ?_ ?_
                                rotate_left
                                · intro w'
                                  go_simp
                                  with_reducible rfl
                                rotate_left
                                · simp only [Act.put, List.setIfInBounds_toArray, List.set_cons_zero, List.set_cons_succ, i64_w, i32_w]
                                  rfl
                                refine pure_ (i := 7) (N := some 44) (v := ?_) (a' := ?_) #[true, true, true, true, true, true, true, true, false, false, false, false] rfl rfl (any_of HT_.out (by kernel_rfl)) (fun _ _ _ h => h) (Or.inl ⟨by rfl, ?_⟩) ?_ ?_
                                rotate_left
                                · intro w'
                                  go_simp
                                  with_reducible rfl
                                rotate_left
                                · simp only [Act.put, List.setIfInBounds_toArray, List.set_cons_zero, List.set_cons_succ, i64_w, i32_w]
                                  rfl
                                refine pure_ (i := 8) (N := some 45) (v := ?_) (a' := ?_) #[true, true, true, true, true, true, true, true, true, false, false, false] rfl rfl (any_of HT_.out (by kernel_rfl)) (fun _ _ _ h => h) (Or.inl ⟨by rfl, ?_⟩) ?_ ?_
                                rotate_left
                                · intro w'
                                  go_simp
                                  with_reducible rfl
                                rotate_left
                                · simp only [Act.put, List.setIfInBounds_toArray, List.set_cons_zero, List.set_cons_succ, i64_w, i32_w]
                                  rfl
                                refine one_ (i := 9) (N := some 12) #[true, true, true, true, true, true, true, true, true, true, false, false] rfl rfl (one_of HT_.out (by kernel_rfl)) (by decide) (fun K hK => ?_)
                                refine box_step ?hg (N := 12) ?hd (cs := #[.int .i64 0, .string (⟨#[]⟩ : ByteArray), .int .u16 0, .int .i64 0, .int .i64 0]) (t := 30) ?hr ?_; (case hd => rfl); (case hg => rfl); (case hr => first | (go_simp; done) | (go_simp; rfl))
                                intro gb237 hg w55 hbox hb
                                have n0_ := Aside0.mk (Kd.R_below (Kd.R_elderB (by (with_reducible repeat (first | apply Kd.R_alloc | apply Kd.R_drewN | apply Kd.R_drew)); exact HO_5.out) gb237 (Nat.le_of_eq hg.symm)) hb)
                                have n1_ := Aside0.mk (blk_below (g := gb224) (o := .cells #[.int .i64 x225000_1, .int .i64 x225001_1] 24 (0, 0)) (by (with_reducible repeat (first | refine blk_drewN ?_ _ | refine blk_drew ?_ | refine blk_alloc ?_ _)); exact BK224.out) hb)
                                have n2_ := Aside0.mk (blk_below (g := gb225) (o := .cells #[.int .i64 x6_1, .int .i64 (wrap64 ((wrap64 (x8_1 - x7_1)) + 1))] 24 (0, 0)) (by (with_reducible repeat (first | refine blk_drewN ?_ _ | refine blk_drew ?_ | refine blk_alloc ?_ _)); exact BK225.out) hb)
                                have n3_ := Aside0.mk (below_step (by repeat (first | (with_reducible first | exact HB.out | apply below_alloc | apply pw_below_drewN | apply below_drew1 | refine below_set ?_ GE224.out | refine below_set ?_ GE225.out) | exact HB.out)) hb)
                                have n4_ := Aside0.mk (hbox)
                                have n5_ := Aside0.mk ((by rw [hg]; exact (below_size (by repeat (first | (with_reducible first | exact HB.out | apply below_alloc | apply pw_below_drewN | apply below_drew1 | refine below_set ?_ GE224.out | refine below_set ?_ GE225.out) | exact HB.out))) : w.heap.size ≤ gb237))
                                have n6_ := Aside0.mk ((by rw [hg]; exact (below_size (by repeat (first | (with_reducible first | exact HB.out | apply below_alloc | apply pw_below_drewN | apply below_drew1 | refine below_set ?_ GE224.out | refine below_set ?_ GE225.out) | exact HB.out))) : w.heap.size ≤ gb237))
                                have n7_ := Aside0.mk ((by rw [hg]; exact Nat.ne_of_lt (blk_lt (g := gb224) (o := .cells #[.int .i64 x225000_1, .int .i64 x225001_1] 24 (0, 0)) (by (with_reducible repeat (first | refine blk_drewN ?_ _ | refine blk_drew ?_ | refine blk_alloc ?_ _)); exact BK224.out)) : gb224 ≠ gb237))
                                have n8_ := Aside0.mk ((by rw [hg]; exact Nat.ne_of_gt (blk_lt (g := gb224) (o := .cells #[.int .i64 x225000_1, .int .i64 x225001_1] 24 (0, 0)) (by (with_reducible repeat (first | refine blk_drewN ?_ _ | refine blk_drew ?_ | refine blk_alloc ?_ _)); exact BK224.out)) : gb237 ≠ gb224))
                                have n9_ := Aside0.mk ((by rw [hg]; exact Nat.ne_of_lt (blk_lt (g := gb225) (o := .cells #[.int .i64 x6_1, .int .i64 (wrap64 ((wrap64 (x8_1 - x7_1)) + 1))] 24 (0, 0)) (by (with_reducible repeat (first | refine blk_drewN ?_ _ | refine blk_drew ?_ | refine blk_alloc ?_ _)); exact BK225.out)) : gb225 ≠ gb237))
                                have n10_ := Aside0.mk ((by rw [hg]; exact Nat.ne_of_gt (blk_lt (g := gb225) (o := .cells #[.int .i64 x6_1, .int .i64 (wrap64 ((wrap64 (x8_1 - x7_1)) + 1))] 24 (0, 0)) (by (with_reducible repeat (first | refine blk_drewN ?_ _ | refine blk_drew ?_ | refine blk_alloc ?_ _)); exact BK225.out)) : gb237 ≠ gb225))
                                clear HO_5
                                clear BK224
                                clear BK225
                                clear HB
                                have HO_5 := n0_
                                have BK224 := n1_
                                have BK225 := n2_
                                have HB := n3_
                                have BK237 := n4_
                                have GW237 := n5_
                                have GE237 := n6_
                                have NB224_237 := n7_
                                have NB237_224 := n8_
                                have NB225_237 := n9_
                                have NB237_225 := n10_
                                clear n0_ n1_ n2_ n3_ n4_ n5_ n6_ n7_ n8_ n9_ n10_
                                clear hb hbox hg
                                refine hK.out _ _ ⟨(blk_cell BK225.out 0).trans rfl, (blk_cell BK225.out 1).trans rfl⟩ (fun hHeld => ?_)
                                clear hK K
                                refine norm_ (a' := ?_) ?_ ?_
                                rotate_left
                                · show Act.put _ (some 12) _ = _
                                  simp only [Act.put, List.setIfInBounds_toArray, List.set_cons_zero, List.set_cons_succ, i64_w, i32_w]
                                  rfl
                                exact norm_ (by simp only [putAll, Act.put, List.setIfInBounds_toArray, List.set_cons_zero, List.set_cons_succ]) (hCont (gb237) _ ⟨hHeld, (by (with_reducible repeat (first | apply Kd.R_alloc | apply Kd.R_drewN | apply Kd.R_drew)); exact Kd.R_mono HO_5.out (fun _ hk => hk.2)), (by (with_reducible repeat (first | refine blk_drewN ?_ _ | refine blk_drew ?_ | refine blk_alloc ?_ _)); exact BK224.out), (by (with_reducible repeat (first | refine blk_drewN ?_ _ | refine blk_drew ?_ | refine blk_alloc ?_ _)); exact BK225.out), (by (with_reducible repeat (first | refine blk_drewN ?_ _ | refine blk_drew ?_ | refine blk_alloc ?_ _)); exact BK237.out), GW237.out, GE237.out, NB224_237.out, NB237_224.out, NB225_237.out, NB237_225.out, (by repeat (first | (with_reducible first | exact HB.out | apply below_alloc | apply pw_below_drewN | apply below_drew1 | refine below_set ?_ GE224.out | refine below_set ?_ GE225.out | refine below_set ?_ GE237.out) | exact HB.out))⟩)
                              · skip
                                refine box_step ?hg (N := 12) ?hd (cs := #[.int .i64 0, .string (⟨#[]⟩ : ByteArray), .int .u16 0, .int .i64 0, .int .i64 0]) (t := 30) ?hr ?_; (case hd => rfl); (case hg => rfl); (case hr => first | (go_simp; done) | (go_simp; rfl))
                                intro gb237 hg w54 hbox hb
                                have n0_ := Aside0.mk (Kd.R_below (Kd.R_elderB (by (with_reducible repeat (first | apply Kd.R_alloc | apply Kd.R_drewN | apply Kd.R_drew)); exact HO_5.out) gb237 (Nat.le_of_eq hg.symm)) hb)
                                have n1_ := Aside0.mk (blk_below (g := gb224) (o := .cells #[.int .i64 x225000_1, .int .i64 x225001_1] 24 (0, 0)) (by (with_reducible repeat (first | refine blk_drewN ?_ _ | refine blk_drew ?_ | refine blk_alloc ?_ _)); exact BK224.out) hb)
                                have n2_ := Aside0.mk (blk_below (g := gb225) (o := .cells #[.int .i64 x6_1, .int .i64 (wrap64 ((wrap64 (x8_1 - x7_1)) + 1))] 24 (0, 0)) (by (with_reducible repeat (first | refine blk_drewN ?_ _ | refine blk_drew ?_ | refine blk_alloc ?_ _)); exact BK225.out) hb)
                                have n3_ := Aside0.mk (below_step (by repeat (first | (with_reducible first | exact HB.out | apply below_alloc | apply pw_below_drewN | apply below_drew1 | refine below_set ?_ GE224.out | refine below_set ?_ GE225.out) | exact HB.out)) hb)
                                have n4_ := Aside0.mk (hbox)
                                have n5_ := Aside0.mk ((by rw [hg]; exact (below_size (by repeat (first | (with_reducible first | exact HB.out | apply below_alloc | apply pw_below_drewN | apply below_drew1 | refine below_set ?_ GE224.out | refine below_set ?_ GE225.out) | exact HB.out))) : w.heap.size ≤ gb237))
                                have n6_ := Aside0.mk ((by rw [hg]; exact (below_size (by repeat (first | (with_reducible first | exact HB.out | apply below_alloc | apply pw_below_drewN | apply below_drew1 | refine below_set ?_ GE224.out | refine below_set ?_ GE225.out) | exact HB.out))) : w.heap.size ≤ gb237))
                                have n7_ := Aside0.mk ((by rw [hg]; exact Nat.ne_of_lt (blk_lt (g := gb224) (o := .cells #[.int .i64 x225000_1, .int .i64 x225001_1] 24 (0, 0)) (by (with_reducible repeat (first | refine blk_drewN ?_ _ | refine blk_drew ?_ | refine blk_alloc ?_ _)); exact BK224.out)) : gb224 ≠ gb237))
                                have n8_ := Aside0.mk ((by rw [hg]; exact Nat.ne_of_gt (blk_lt (g := gb224) (o := .cells #[.int .i64 x225000_1, .int .i64 x225001_1] 24 (0, 0)) (by (with_reducible repeat (first | refine blk_drewN ?_ _ | refine blk_drew ?_ | refine blk_alloc ?_ _)); exact BK224.out)) : gb237 ≠ gb224))
                                have n9_ := Aside0.mk ((by rw [hg]; exact Nat.ne_of_lt (blk_lt (g := gb225) (o := .cells #[.int .i64 x6_1, .int .i64 (wrap64 ((wrap64 (x8_1 - x7_1)) + 1))] 24 (0, 0)) (by (with_reducible repeat (first | refine blk_drewN ?_ _ | refine blk_drew ?_ | refine blk_alloc ?_ _)); exact BK225.out)) : gb225 ≠ gb237))
                                have n10_ := Aside0.mk ((by rw [hg]; exact Nat.ne_of_gt (blk_lt (g := gb225) (o := .cells #[.int .i64 x6_1, .int .i64 (wrap64 ((wrap64 (x8_1 - x7_1)) + 1))] 24 (0, 0)) (by (with_reducible repeat (first | refine blk_drewN ?_ _ | refine blk_drew ?_ | refine blk_alloc ?_ _)); exact BK225.out)) : gb237 ≠ gb225))
                                clear HO_5
                                clear BK224
                                clear BK225
                                clear HB
                                have HO_5 := n0_
                                have BK224 := n1_
                                have BK225 := n2_
                                have HB := n3_
                                have BK237 := n4_
                                have GW237 := n5_
                                have GE237 := n6_
                                have NB224_237 := n7_
                                have NB237_224 := n8_
                                have NB225_237 := n9_
                                have NB237_225 := n10_
                                clear n0_ n1_ n2_ n3_ n4_ n5_ n6_ n7_ n8_ n9_ n10_
                                clear hb hbox hg
                                refine hK.out _ _ ⟨(blk_cell BK225.out 0).trans rfl, (blk_cell BK225.out 1).trans rfl⟩ (fun hHeld => ?_)
                                clear hK K
                                refine norm_ (a' := ?_) ?_ ?_
                                rotate_left
                                · show Act.put _ (some 12) _ = _
                                  simp only [Act.put, List.setIfInBounds_toArray, List.set_cons_zero, List.set_cons_succ, i64_w, i32_w]
                                  rfl
                                refine one_ (i := 5) (N := some 43) #[true, true, true, true, true, true, false, false, false, true, false, false] rfl rfl (one_of HT_.out (by kernel_rfl)) (by decide) (fun K hK => ?_)
                                refine goes_ Try.func30 (by kernel_rfl) rfl #[.string (a0.extract (x8_1 : Int).toNat (t228 : Int).toNat), .agg #[.int .i64 x6_1, .int .i64 (wrap64 ((wrap64 (x8_1 - x7_1)) + 1))]] (by rfl) rfl rfl (by (try simp only [List.map_toArray, List.map_cons, List.map_nil]); first | done | rfl | (simp only [List.length_drop, List.length_take]; rfl)) ?_
                                with_reducible refine (wispref09_token.calls k1 (a0.extract (x8_1 : Int).toNat (t228 : Int).toNat) x6_1 (wrap64 ((wrap64 (x8_1 - x7_1)) + 1)) t231 t232 t233 t234 t235 t236 _ A35.out).mono ?_
                                rintro e w55 ⟨rfl, hb⟩
                                refine ⟨_, rfl, ?_⟩
                                have n0_ := Aside0.mk (Kd.R_below (by (with_reducible repeat (first | apply Kd.R_alloc | apply Kd.R_drewN | apply Kd.R_drew)); exact HO_5.out) hb)
                                have n1_ := Aside0.mk (blk_below (g := gb224) (o := .cells #[.int .i64 x225000_1, .int .i64 x225001_1] 24 (0, 0)) (by (with_reducible repeat (first | refine blk_drewN ?_ _ | refine blk_drew ?_ | refine blk_alloc ?_ _)); exact BK224.out) hb)
                                have n2_ := Aside0.mk (blk_below (g := gb225) (o := .cells #[.int .i64 x6_1, .int .i64 (wrap64 ((wrap64 (x8_1 - x7_1)) + 1))] 24 (0, 0)) (by (with_reducible repeat (first | refine blk_drewN ?_ _ | refine blk_drew ?_ | refine blk_alloc ?_ _)); exact BK225.out) hb)
                                have n3_ := Aside0.mk (blk_below (g := gb237) (o := .cells #[.int .i64 0, .string (⟨#[]⟩ : ByteArray), .int .u16 0, .int .i64 0, .int .i64 0] 30 (0, 0)) (by (with_reducible repeat (first | refine blk_drewN ?_ _ | refine blk_drew ?_ | refine blk_alloc ?_ _)); exact BK237.out) hb)
                                have n4_ := Aside0.mk (below_step (by repeat (first | (with_reducible first | exact HB.out | apply below_alloc | apply pw_below_drewN | apply below_drew1 | refine below_set ?_ GE224.out | refine below_set ?_ GE225.out | refine below_set ?_ GE237.out) | exact HB.out)) hb)
                                clear HO_5
                                clear BK224
                                clear BK225
                                clear BK237
                                clear HB
                                have HO_5 := n0_
                                have BK224 := n1_
                                have BK225 := n2_
                                have BK237 := n3_
                                have HB := n4_
                                clear n0_ n1_ n2_ n3_ n4_
                                (try clear hb)
                                (try clear hb2)
                                (try clear hk)
                                (try clear hi)
                                refine hK.out _ _ ⟨(blk_cell BK225.out 0).trans rfl, (blk_cell BK225.out 1).trans rfl⟩ (fun hHeld => ?_)
                                clear hK K
                                refine norm_ (a' := ?_) ?_ ?_
                                rotate_left
                                · show Act.put _ (some 43) _ = _
                                  simp only [Act.put, List.setIfInBounds_toArray, List.set_cons_zero, List.set_cons_succ, i64_w, i32_w]
                                  rfl
                                refine pure_ (i := 6) (N := some 37) (v := ?_) (a' := ?_) #[true, true, true, true, true, true, true, false, false, true, false, false] rfl rfl (any_of HT_.out (by kernel_rfl)) (fun _ _ _ h => h) (Or.inl ⟨by rfl, ?_⟩) ?_ ?_
                                rotate_left
                                · intro w'
                                  go_simp
                                  with_reducible rfl
                                rotate_left
                                · simp only [Act.put, List.setIfInBounds_toArray, List.set_cons_zero, List.set_cons_succ, i64_w, i32_w]
                                  rfl
                                refine pure_ (i := 7) (N := some 44) (v := ?_) (a' := ?_) #[true, true, true, true, true, true, true, true, false, true, false, false] rfl rfl (any_of HT_.out (by kernel_rfl)) (fun _ _ _ h => h) (Or.inl ⟨by rfl, ?_⟩) ?_ ?_
                                rotate_left
                                · intro w'
                                  go_simp
                                  with_reducible rfl
                                rotate_left
                                · simp only [Act.put, List.setIfInBounds_toArray, List.set_cons_zero, List.set_cons_succ, i64_w, i32_w]
                                  rfl
                                refine pure_ (i := 8) (N := some 45) (v := ?_) (a' := ?_) #[true, true, true, true, true, true, true, true, true, true, false, false] rfl rfl (any_of HT_.out (by kernel_rfl)) (fun _ _ _ h => h) (Or.inl ⟨by rfl, ?_⟩) ?_ ?_
                                rotate_left
                                · intro w'
                                  go_simp
                                  with_reducible rfl
                                rotate_left
                                · simp only [Act.put, List.setIfInBounds_toArray, List.set_cons_zero, List.set_cons_succ, i64_w, i32_w]
                                  rfl
                                exact norm_ (by simp only [putAll, Act.put, List.setIfInBounds_toArray, List.set_cons_zero, List.set_cons_succ]) (hCont (gb237) _ ⟨hHeld, (by (with_reducible repeat (first | apply Kd.R_alloc | apply Kd.R_drewN | apply Kd.R_drew)); exact Kd.R_mono HO_5.out (fun _ hk => hk.2)), (by (with_reducible repeat (first | refine blk_drewN ?_ _ | refine blk_drew ?_ | refine blk_alloc ?_ _)); exact BK224.out), (by (with_reducible repeat (first | refine blk_drewN ?_ _ | refine blk_drew ?_ | refine blk_alloc ?_ _)); exact BK225.out), (by (with_reducible repeat (first | refine blk_drewN ?_ _ | refine blk_drew ?_ | refine blk_alloc ?_ _)); exact BK237.out), GW237.out, GE237.out, NB224_237.out, NB237_224.out, NB225_237.out, NB237_225.out, (by repeat (first | (with_reducible first | exact HB.out | apply below_alloc | apply pw_below_drewN | apply below_drew1 | refine below_set ?_ GE224.out | refine below_set ?_ GE225.out | refine below_set ?_ GE237.out) | exact HB.out))⟩)
                            rintro gb237 w56 ⟨hS_, h0_, h1_, h2_, h3_, h4_, h5_, h6_, h7_, h8_, h9_, h10_⟩
                            have n0_ : Aside0 (Kd.R k30 30 w56 w.heap.size (fun k_ => k_ ≠ gb237) u5 x5_1) := ⟨h0_⟩
                            have n1_ : Aside0 (w56.heap[gb224]? = some (.cells #[.int .i64 x225000_1, .int .i64 x225001_1] 24 (0, 0))) := ⟨h1_⟩
                            have n2_ : Aside0 (w56.heap[gb225]? = some (.cells #[.int .i64 x6_1, .int .i64 (wrap64 ((wrap64 (x8_1 - x7_1)) + 1))] 24 (0, 0))) := ⟨h2_⟩
                            have n3_ : Aside0 (w56.heap[gb237]? = some (.cells #[.int .i64 0, .string (⟨#[]⟩ : ByteArray), .int .u16 0, .int .i64 0, .int .i64 0] 30 (0, 0))) := ⟨h3_⟩
                            have n4_ : Aside0 (w.heap.size ≤ gb237) := ⟨h4_⟩
                            have n5_ : Aside0 (w.heap.size ≤ gb237) := ⟨h5_⟩
                            have n6_ : Aside0 (gb224 ≠ gb237) := ⟨h6_⟩
                            have n7_ : Aside0 (gb237 ≠ gb224) := ⟨h7_⟩
                            have n8_ : Aside0 (gb225 ≠ gb237) := ⟨h8_⟩
                            have n9_ : Aside0 (gb237 ≠ gb225) := ⟨h9_⟩
                            have n10_ : Aside0 (Below w.heap.size w w56) := ⟨h10_⟩
                            clear HO_5
                            clear BK224
                            clear BK225
                            clear HB
                            clear h0_ h1_ h2_ h3_ h4_ h5_ h6_ h7_ h8_ h9_ h10_
                            have HO_5 := n0_
                            have BK224 := n1_
                            have BK225 := n2_
                            have BK237 := n3_
                            have GW237 := n4_
                            have GE237 := n5_
                            have NB224_237 := n6_
                            have NB237_224 := n7_
                            have NB225_237 := n8_
                            have NB237_225 := n9_
                            have HB := n10_
                            clear n0_ n1_ n2_ n3_ n4_ n5_ n6_ n7_ n8_ n9_ n10_
                            have hHeld : w56.cell? ⟨gb225, 0, none⟩ = some (.int .i64 x6_1) ∧ w56.cell? ⟨gb225, 1, none⟩ = some (.int .i64 (wrap64 ((wrap64 (x8_1 - x7_1)) + 1))) := hS_
                            refine norm_ (a' := ?_) ?_ ?_
                            rotate_left
                            · simp only [putAll, Act.put, List.setIfInBounds_toArray, List.set_cons_zero, List.set_cons_succ]
                              rfl
                            refine one_ (i := 10) (N := none) #[true, true, true, true, true, true, true, true, true, true, true, false] rfl rfl (one_of HT_.out (by kernel_rfl)) (by decide) (fun K hK => ?_)
                            have hs57 : w56.cell? ⟨gb237, 0, none⟩ = some (.int .i64 0) := (blk_cell BK237.out 0).trans rfl
                            have hfs57 := blk_frozen BK237.out 0
                            have hns57_0 := NB224_237.out
                            have hns57_1 := NB225_237.out
                            have hms57_0 := NB237_224.out
                            have hms57_1 := NB237_225.out
                            have hs58 : w56.cell? ⟨gb237, 1, none⟩ = some (.string (⟨#[]⟩ : ByteArray)) := (blk_cell BK237.out 1).trans rfl
                            have hfs58 := blk_frozen BK237.out 1
                            have hns58_0 := NB224_237.out
                            have hns58_1 := NB225_237.out
                            have hms58_0 := NB237_224.out
                            have hms58_1 := NB237_225.out
                            have hs59 : w56.cell? ⟨gb237, 2, none⟩ = some (.int .u16 0) := (blk_cell BK237.out 2).trans rfl
                            have hfs59 := blk_frozen BK237.out 2
                            have hns59_0 := NB224_237.out
                            have hns59_1 := NB225_237.out
                            have hms59_0 := NB237_224.out
                            have hms59_1 := NB237_225.out
                            have hs60 : w56.cell? ⟨gb237, 3, none⟩ = some (.int .i64 0) := (blk_cell BK237.out 3).trans rfl
                            have hfs60 := blk_frozen BK237.out 3
                            have hns60_0 := NB224_237.out
                            have hns60_1 := NB225_237.out
                            have hms60_0 := NB237_224.out
                            have hms60_1 := NB237_225.out
                            have hs61 : w56.cell? ⟨gb237, 4, none⟩ = some (.int .i64 0) := (blk_cell BK237.out 4).trans rfl
                            have hfs61 := blk_frozen BK237.out 4
                            have hns61_0 := NB224_237.out
                            have hns61_1 := NB225_237.out
                            have hms61_0 := NB237_224.out
                            have hms61_1 := NB237_225.out
                            refine skip_ (w1 := ?_) (by rfl) rfl ?_ ?_
                            rotate_left
                            · go_simp
                              rfl
                            refine hK.out _ _ ⟨((cell_far (p := ⟨gb237, _, none⟩) NB225_237.out _).trans (((cell_far (p := ⟨gb237, _, none⟩) NB225_237.out _).trans (((cell_far (p := ⟨gb237, _, none⟩) NB225_237.out _).trans (((cell_far (p := ⟨gb237, _, none⟩) NB225_237.out _).trans (((cell_far (p := ⟨gb237, _, none⟩) NB225_237.out _).trans (hHeld.1)))))))))), ((cell_far (p := ⟨gb237, _, none⟩) NB225_237.out _).trans (((cell_far (p := ⟨gb237, _, none⟩) NB225_237.out _).trans (((cell_far (p := ⟨gb237, _, none⟩) NB225_237.out _).trans (((cell_far (p := ⟨gb237, _, none⟩) NB225_237.out _).trans (((cell_far (p := ⟨gb237, _, none⟩) NB225_237.out _).trans (hHeld.2))))))))))⟩ (fun hHeld => ?_)
                            clear hK K
                            refine pure_ (i := 11) (N := some 13) (v := ?_) (a' := ?_) #[true, true, true, true, true, true, true, true, true, true, true, true] rfl rfl (any_of HT_.out (by kernel_rfl)) (fun _ _ _ h => h) (Or.inl ⟨by rfl, ?_⟩) ?_ ?_
                            rotate_left
                            · intro w'
                              go_simp
                              with_reducible rfl
                            rotate_left
                            · simp only [Act.put, List.setIfInBounds_toArray, List.set_cons_zero, List.set_cons_succ, i64_w, i32_w]
                              rfl
                            refine done_ (done_of HT_.out (by kernel_rfl)) ?_
                            try go_wp2
                            have n0_ : Aside0 (Kd.R k30 30 (((((w56.setCell ⟨gb237, 0, none⟩ (.int .i64 t231)).setCell ⟨gb237, 1, none⟩ (.string t232)).setCell ⟨gb237, 2, none⟩ (.int .u16 t233)).setCell ⟨gb237, 3, none⟩ (.int .i64 t234)).setCell ⟨gb237, 4, none⟩ (.int .i64 t235)) w.heap.size (fun k_ => k_ ≠ gb237) u5 x5_1) := ⟨by (with_reducible repeat (first | apply Kd.R_alloc | apply Kd.R_drewN | apply Kd.R_drew)); exact Kd.R_mono (Kd.R_far (p := ⟨gb237, 4, none⟩) (Kd.R_far (p := ⟨gb237, 3, none⟩) (Kd.R_far (p := ⟨gb237, 2, none⟩) (Kd.R_far (p := ⟨gb237, 1, none⟩) (Kd.R_far (p := ⟨gb237, 0, none⟩) (Kd.R_mono HO_5.out (fun k_ hk => (⟨hk, hk⟩ : _ ∧ k_ ≠ gb237))) (fun _ hk => hk.2) (.int .i64 t231)) (fun _ hk => hk.2) (.string t232)) (fun _ hk => hk.2) (.int .u16 t233)) (fun _ hk => hk.2) (.int .i64 t234)) (fun _ hk => hk.2) (.int .i64 t235)) (fun _ hk => hk.1)⟩
                            have n1_ : Aside0 ((((((w56.setCell ⟨gb237, 0, none⟩ (.int .i64 t231)).setCell ⟨gb237, 1, none⟩ (.string t232)).setCell ⟨gb237, 2, none⟩ (.int .u16 t233)).setCell ⟨gb237, 3, none⟩ (.int .i64 t234)).setCell ⟨gb237, 4, none⟩ (.int .i64 t235)).heap[gb224]? = some (.cells #[.int .i64 x225000_1, .int .i64 x225001_1] 24 (0, 0))) := ⟨by (with_reducible repeat (first | refine blk_drewN ?_ _ | refine blk_drew ?_ | refine blk_alloc ?_ _)); refine blk_far ?_ NB224_237.out _; (with_reducible repeat (first | refine blk_drewN ?_ _ | refine blk_drew ?_ | refine blk_alloc ?_ _)); refine blk_far ?_ NB224_237.out _; (with_reducible repeat (first | refine blk_drewN ?_ _ | refine blk_drew ?_ | refine blk_alloc ?_ _)); refine blk_far ?_ NB224_237.out _; (with_reducible repeat (first | refine blk_drewN ?_ _ | refine blk_drew ?_ | refine blk_alloc ?_ _)); refine blk_far ?_ NB224_237.out _; (with_reducible repeat (first | refine blk_drewN ?_ _ | refine blk_drew ?_ | refine blk_alloc ?_ _)); refine blk_far ?_ NB224_237.out _; (with_reducible repeat (first | refine blk_drewN ?_ _ | refine blk_drew ?_ | refine blk_alloc ?_ _)); exact BK224.out⟩
                            have n2_ : Aside0 ((((((w56.setCell ⟨gb237, 0, none⟩ (.int .i64 t231)).setCell ⟨gb237, 1, none⟩ (.string t232)).setCell ⟨gb237, 2, none⟩ (.int .u16 t233)).setCell ⟨gb237, 3, none⟩ (.int .i64 t234)).setCell ⟨gb237, 4, none⟩ (.int .i64 t235)).heap[gb225]? = some (.cells #[.int .i64 x6_1, .int .i64 (wrap64 ((wrap64 (x8_1 - x7_1)) + 1))] 24 (0, 0))) := ⟨by (with_reducible repeat (first | refine blk_drewN ?_ _ | refine blk_drew ?_ | refine blk_alloc ?_ _)); refine blk_far ?_ NB225_237.out _; (with_reducible repeat (first | refine blk_drewN ?_ _ | refine blk_drew ?_ | refine blk_alloc ?_ _)); refine blk_far ?_ NB225_237.out _; (with_reducible repeat (first | refine blk_drewN ?_ _ | refine blk_drew ?_ | refine blk_alloc ?_ _)); refine blk_far ?_ NB225_237.out _; (with_reducible repeat (first | refine blk_drewN ?_ _ | refine blk_drew ?_ | refine blk_alloc ?_ _)); refine blk_far ?_ NB225_237.out _; (with_reducible repeat (first | refine blk_drewN ?_ _ | refine blk_drew ?_ | refine blk_alloc ?_ _)); refine blk_far ?_ NB225_237.out _; (with_reducible repeat (first | refine blk_drewN ?_ _ | refine blk_drew ?_ | refine blk_alloc ?_ _)); exact BK225.out⟩
                            have n3_ : Aside0 ((((((w56.setCell ⟨gb237, 0, none⟩ (.int .i64 t231)).setCell ⟨gb237, 1, none⟩ (.string t232)).setCell ⟨gb237, 2, none⟩ (.int .u16 t233)).setCell ⟨gb237, 3, none⟩ (.int .i64 t234)).setCell ⟨gb237, 4, none⟩ (.int .i64 t235)).heap[gb237]? = some (.cells #[.int .i64 t231, .string t232, .int .u16 t233, .int .i64 t234, .int .i64 t235] 30 (0, 0))) := ⟨by (with_reducible repeat (first | refine blk_drewN ?_ _ | refine blk_drew ?_ | refine blk_alloc ?_ _)); refine blk_put (cs := #[.int .i64 t231, .string t232, .int .u16 t233, .int .i64 t234, .int .i64 0]) ?_ 4 _ rfl; (with_reducible repeat (first | refine blk_drewN ?_ _ | refine blk_drew ?_ | refine blk_alloc ?_ _)); refine blk_put (cs := #[.int .i64 t231, .string t232, .int .u16 t233, .int .i64 0, .int .i64 0]) ?_ 3 _ rfl; (with_reducible repeat (first | refine blk_drewN ?_ _ | refine blk_drew ?_ | refine blk_alloc ?_ _)); refine blk_put (cs := #[.int .i64 t231, .string t232, .int .u16 0, .int .i64 0, .int .i64 0]) ?_ 2 _ rfl; (with_reducible repeat (first | refine blk_drewN ?_ _ | refine blk_drew ?_ | refine blk_alloc ?_ _)); refine blk_put (cs := #[.int .i64 t231, .string (⟨#[]⟩ : ByteArray), .int .u16 0, .int .i64 0, .int .i64 0]) ?_ 1 _ rfl; (with_reducible repeat (first | refine blk_drewN ?_ _ | refine blk_drew ?_ | refine blk_alloc ?_ _)); refine blk_put (cs := #[.int .i64 0, .string (⟨#[]⟩ : ByteArray), .int .u16 0, .int .i64 0, .int .i64 0]) ?_ 0 _ rfl; (with_reducible repeat (first | refine blk_drewN ?_ _ | refine blk_drew ?_ | refine blk_alloc ?_ _)); exact BK237.out⟩
                            have n4_ : Aside0 (Below w.heap.size w (((((w56.setCell ⟨gb237, 0, none⟩ (.int .i64 t231)).setCell ⟨gb237, 1, none⟩ (.string t232)).setCell ⟨gb237, 2, none⟩ (.int .u16 t233)).setCell ⟨gb237, 3, none⟩ (.int .i64 t234)).setCell ⟨gb237, 4, none⟩ (.int .i64 t235))) := ⟨by repeat (first | (with_reducible first | exact HB.out | apply below_alloc | apply pw_below_drewN | apply below_drew1 | refine below_set ?_ GE224.out | refine below_set ?_ GE225.out | refine below_set ?_ GE237.out) | exact HB.out)⟩
                            (try clear HO_5)
                            (try clear BK224)
                            (try clear BK225)
                            (try clear BK237)
                            (try clear HB)
                            generalize (((((w56.setCell ⟨gb237, 0, none⟩ (.int .i64 t231)).setCell ⟨gb237, 1, none⟩ (.string t232)).setCell ⟨gb237, 2, none⟩ (.int .u16 t233)).setCell ⟨gb237, 3, none⟩ (.int .i64 t234)).setCell ⟨gb237, 4, none⟩ (.int .i64 t235)) = w62 at n0_ n1_ n2_ n3_ n4_ ⊢
                            have HO_5 := n0_
                            have BK224 := n1_
                            have BK225 := n2_
                            have BK237 := n3_
                            have HB := n4_
                            clear n0_ n1_ n2_ n3_ n4_
                            have n0_ := Aside0.mk (Kd.R_drew HO_5.out)
                            have n1_ := Aside0.mk (blk_drew BK224.out)
                            have n2_ := Aside0.mk (blk_drew BK225.out)
                            have n3_ := Aside0.mk (blk_drew BK237.out)
                            have n4_ := Aside0.mk (below_drew1 HB.out)
                            clear HO_5
                            clear BK224
                            clear BK225
                            clear BK237
                            clear HB
                            have HO_5 := n0_
                            have BK224 := n1_
                            have BK225 := n2_
                            have BK237 := n3_
                            have HB := n4_
                            clear n0_ n1_ n2_ n3_ n4_
                            refine start_ (n := 5) (S := fun w' => w'.cell? ⟨gb225, 0, none⟩ = some (.int .i64 x6_1) ∧ w'.cell? ⟨gb225, 1, none⟩ = some (.int .i64 (wrap64 ((wrap64 (x8_1 - x7_1)) + 1)))) (ds := []) #[false, false, false, false, false] (by kernel_rfl) rfl rfl ⟨(blk_cell BK225.out 0).trans rfl, (blk_cell BK225.out 1).trans rfl⟩ (fun hHeld => ?_)
                            generalize w62.drew = w63 at HO_5 BK224 BK225 BK237 HB hHeld ⊢
                            refine pure_ (i := 1) (N := some 49) (v := ?_) (a' := ?_) #[false, true, false, false, false] rfl rfl (by kernel_rfl) (fun _ _ _ h => h) (Or.inl ⟨by rfl, ?_⟩) ?_ ?_
                            rotate_left
                            · intro w'
                              go_simp
                              with_reducible rfl
                            rotate_left
                            · simp only [Act.put, List.setIfInBounds_toArray, List.set_cons_zero, List.set_cons_succ, i64_w, i32_w]
                              rfl
                            refine pure_ (i := 2) (N := some 2) (v := ?_) (a' := ?_) #[false, true, true, false, false] rfl rfl (by kernel_rfl) (fun _ _ _ h => h) (Or.inl ⟨by rfl, ?_⟩) ?_ ?_
                            rotate_left
                            · intro w'
                              go_simp
                              with_reducible rfl
                            rotate_left
                            · simp only [Act.put, List.setIfInBounds_toArray, List.set_cons_zero, List.set_cons_succ, i64_w, i32_w]
                              rfl
                            refine take_ (i := 0) (N := some 48) (v := ?_) (a' := ?_) #[true, true, true, false, false] rfl rfl (by kernel_rfl) (fun _ _ _ h => h) (Or.inl ⟨by rfl, ?_⟩) hHeld ?_ ?_
                            rotate_left
                            · rintro w' ⟨s0, s1⟩
                              go_simp
                              with_reducible rfl
                            rotate_left
                            · simp only [Act.put, List.setIfInBounds_toArray, List.set_cons_zero, List.set_cons_succ, i64_w, i32_w]
                              rfl
                            refine one_ (i := 3) (N := none) #[true, true, true, true, false] rfl rfl (by kernel_rfl) (by decide) (fun K hK => ?_)
                            have hs64 : w63.cell? ⟨gb224, 0, none⟩ = some (.int .i64 x225000_1) := (blk_cell BK224.out 0).trans rfl
                            have hfs64 := blk_frozen BK224.out 0
                            have hns64_1 := NB225_224.out
                            have hns64_2 := NB237_224.out
                            have hms64_1 := NB224_225.out
                            have hms64_2 := NB224_237.out
                            have hs65 : w63.cell? ⟨gb224, 1, none⟩ = some (.int .i64 x225001_1) := (blk_cell BK224.out 1).trans rfl
                            have hfs65 := blk_frozen BK224.out 1
                            have hns65_1 := NB225_224.out
                            have hns65_2 := NB237_224.out
                            have hms65_1 := NB224_225.out
                            have hms65_2 := NB224_237.out
                            refine skip_ (w1 := ?_) (by rfl) rfl ?_ ?_
                            rotate_left
                            · go_simp
                              rfl
                            refine hK.out _ _ ⟨((cell_far (p := ⟨gb224, _, none⟩) NB225_224.out _).trans (((cell_far (p := ⟨gb224, _, none⟩) NB225_224.out _).trans (hHeld.1)))), ((cell_far (p := ⟨gb224, _, none⟩) NB225_224.out _).trans (((cell_far (p := ⟨gb224, _, none⟩) NB225_224.out _).trans (hHeld.2))))⟩ (fun hHeld => ?_)
                            clear hK K
                            refine pure_ (i := 4) (N := some 4) (v := ?_) (a' := ?_) #[true, true, true, true, true] rfl rfl (by kernel_rfl) (fun _ _ _ h => h) (Or.inl ⟨by rfl, ?_⟩) ?_ ?_
                            rotate_left
                            · intro w'
                              go_simp
                              with_reducible rfl
                            rotate_left
                            · simp only [Act.put, List.setIfInBounds_toArray, List.set_cons_zero, List.set_cons_succ, i64_w, i32_w]
                              rfl
                            refine done_ (by kernel_rfl) ?_
                            try go_wp2
                            refine bodyPost_ret (results_list (rs := [.tmp 2, .cell 3 24, .tmp 4]) rfl (by simp) (.tmp (.cell gb224 24 #[.int .i64 x6_1, .int .i64 (wrap64 ((wrap64 (x8_1 - x7_1)) + 1))] (0, 0) _ rfl (by (with_reducible repeat (first | refine blk_drewN ?_ _ | refine blk_drew ?_ | refine blk_alloc ?_ _)); refine blk_put (cs := #[.int .i64 x6_1, .int .i64 x225001_1]) ?_ 1 _ rfl; (with_reducible repeat (first | refine blk_drewN ?_ _ | refine blk_drew ?_ | refine blk_alloc ?_ _)); refine blk_put (cs := #[.int .i64 x225000_1, .int .i64 x225001_1]) ?_ 0 _ rfl; (with_reducible repeat (first | refine blk_drewN ?_ _ | refine blk_drew ?_ | refine blk_alloc ?_ _)); exact BK224.out) Try.underlying24 rfl (by kernel_rfl) (.tmp .nil)))) rfl ?_
                            exact ⟨_, by first | rfl | (simp [errW_none, errW_some] <;> rfl) | (simp [*, errW_none, errW_some] <;> rfl), by first | exact Kd.R_nil _ _ _ _ _ | exact Kd.N_nil _ _ _ _ _ | exact Kd.V_nil _ _ _ _ _ | exact Kd.Q_nil _ _ _ _ _ | exact Kd.S_nil _ _ _ _ _, by repeat (first | (with_reducible first | exact HB.out | apply below_alloc | apply pw_below_drewN | apply below_drew1 | refine below_set ?_ GE224.out | refine below_set ?_ GE225.out | refine below_set ?_ GE237.out) | exact HB.out)⟩
                    · rw [if_neg c21] at H
                      exact absurd H (by simp)
                  · rw [if_neg c20] at H
                    exact absurd H (by simp)
                · replace c17 := Bool.eq_false_iff.mpr c17
                  subst c17
                  have H1 : (some (([] : List (S30)), x6_1, wrap64 ((wrap64 (x8_1 - x7_1)) + 1), 91)) = some (r1, r2, r3, r4) := by rw [if_neg (show ¬ (false = true) by decide)] at H; exact H
                  clear H
                  have H := H1
                  clear H1
                  simp only [Option.some.injEq, Prod.mk.injEq] at H
                  obtain ⟨rfl, rfl, rfl, rfl⟩ := H
                  have p12 : 0 ≤ (x8_1 : Int) := of_decide_eq_true (by first | (with_reducible assumption) | assumption)
                  have q12 : x8_1 < (a0.size : Int) := of_decide_eq_true (by first | (with_reducible assumption) | assumption)
                  have hx12 := bt_at a0 x8_1
                  replace p12 := eq_true p12
                  replace q12 := eq_true q12
                  try go_wp2_with (first | ((with_reducible refine gate_callee (f := 26) rfl ?_); refine goesL_ (some 76) rfl rfl Try.func26 (by kernel_rfl) rfl #[.int .u8 (bt a0 x8_1)] rfl (by (try simp only [List.map_toArray, List.map_cons, List.map_nil]); first | done | rfl | (simp only [List.length_drop, List.length_take]; rfl)) ?_; (with_reducible refine (wispref09_blank.calls (bt a0 x8_1) false _ A13.out).mono ?_); rintro e w' ⟨rfl, ⟨nd, rfl⟩⟩; refine ⟨_, rfl, ?_⟩; have p15 : 0 ≤ (x8_1 : Int) := of_decide_eq_true (by first | (with_reducible assumption) | assumption); have q15 : x8_1 < (a0.size : Int) := of_decide_eq_true (by first | (with_reducible assumption) | assumption); have hx15 := bt_at a0 x8_1; replace p15 := eq_true p15; replace q15 := eq_true q15) | ((with_reducible refine gate_callee (f := 27) rfl ?_); refine goesL_ (some 83) rfl rfl Try.func27 (by kernel_rfl) rfl #[.int .u8 (bt a0 x8_1)] rfl (by (try simp only [List.map_toArray, List.map_cons, List.map_nil]); first | done | rfl | (simp only [List.length_drop, List.length_take]; rfl)) ?_; (with_reducible refine (wispref09_letter.calls (bt a0 x8_1) false _ A16.out).mono ?_); rintro e w' ⟨rfl, ⟨nd, rfl⟩⟩; refine ⟨_, rfl, ?_⟩))
                  have n0_ : Aside0 (Kd.R k30 30 ((w8.setCell ⟨gb225, 0, none⟩ (.int .i64 x6_1)).setCell ⟨gb225, 1, none⟩ (.int .i64 (wrap64 ((wrap64 (x8_1 - x7_1)) + 1)))) w.heap.size (fun _ => True) u5 x5_1) := ⟨by (with_reducible repeat (first | apply Kd.R_alloc | apply Kd.R_drewN | apply Kd.R_drew)); exact Kd.R_mono (Kd.R_far (p := ⟨gb225, 1, none⟩) (Kd.R_far (p := ⟨gb225, 0, none⟩) (Kd.R_types HO_5.out BK225.out (by decide)) (fun _ hk => hk.2) (.int .i64 x6_1)) (fun _ hk => hk.2) (.int .i64 (wrap64 ((wrap64 (x8_1 - x7_1)) + 1)))) (fun _ hk => trivial)⟩
                  have n1_ : Aside0 (((w8.setCell ⟨gb225, 0, none⟩ (.int .i64 x6_1)).setCell ⟨gb225, 1, none⟩ (.int .i64 (wrap64 ((wrap64 (x8_1 - x7_1)) + 1)))).heap[gb224]? = some (.cells #[.int .i64 x225000_1, .int .i64 x225001_1] 24 (0, 0))) := ⟨by (with_reducible repeat (first | refine blk_drewN ?_ _ | refine blk_drew ?_ | refine blk_alloc ?_ _)); refine blk_far ?_ NB224_225.out _; (with_reducible repeat (first | refine blk_drewN ?_ _ | refine blk_drew ?_ | refine blk_alloc ?_ _)); refine blk_far ?_ NB224_225.out _; (with_reducible repeat (first | refine blk_drewN ?_ _ | refine blk_drew ?_ | refine blk_alloc ?_ _)); exact BK224.out⟩
                  have n2_ : Aside0 (((w8.setCell ⟨gb225, 0, none⟩ (.int .i64 x6_1)).setCell ⟨gb225, 1, none⟩ (.int .i64 (wrap64 ((wrap64 (x8_1 - x7_1)) + 1)))).heap[gb225]? = some (.cells #[.int .i64 x6_1, .int .i64 (wrap64 ((wrap64 (x8_1 - x7_1)) + 1))] 24 (0, 0))) := ⟨by (with_reducible repeat (first | refine blk_drewN ?_ _ | refine blk_drew ?_ | refine blk_alloc ?_ _)); refine blk_put (cs := #[.int .i64 x6_1, .int .i64 0]) ?_ 1 _ rfl; (with_reducible repeat (first | refine blk_drewN ?_ _ | refine blk_drew ?_ | refine blk_alloc ?_ _)); refine blk_put (cs := #[.int .i64 0, .int .i64 0]) ?_ 0 _ rfl; (with_reducible repeat (first | refine blk_drewN ?_ _ | refine blk_drew ?_ | refine blk_alloc ?_ _)); exact BK225.out⟩
                  have n3_ : Aside0 (Below w.heap.size w ((w8.setCell ⟨gb225, 0, none⟩ (.int .i64 x6_1)).setCell ⟨gb225, 1, none⟩ (.int .i64 (wrap64 ((wrap64 (x8_1 - x7_1)) + 1))))) := ⟨by repeat (first | (with_reducible first | exact HB.out | apply below_alloc | apply pw_below_drewN | apply below_drew1 | refine below_set ?_ GE224.out | refine below_set ?_ GE225.out) | exact HB.out)⟩
                  (try clear HO_5)
                  (try clear BK224)
                  (try clear BK225)
                  (try clear HB)
                  generalize ((w8.setCell ⟨gb225, 0, none⟩ (.int .i64 x6_1)).setCell ⟨gb225, 1, none⟩ (.int .i64 (wrap64 ((wrap64 (x8_1 - x7_1)) + 1)))) = w66 at n0_ n1_ n2_ n3_ ⊢
                  have HO_5 := n0_
                  have BK224 := n1_
                  have BK225 := n2_
                  have HB := n3_
                  clear n0_ n1_ n2_ n3_
                  (try (rw [drewN_self w66]; generalize hq_ : World.drewN w66 _ = w66; have n0_ : Aside0 (Kd.R k30 30 w66 w.heap.size (fun _ => True) u5 x5_1) := ⟨by rw [← hq_]; exact (by (with_reducible repeat (first | apply Kd.R_alloc | apply Kd.R_drewN | apply Kd.R_drew)); exact HO_5.out)⟩; have n1_ : Aside0 (w66.heap[gb224]? = some (.cells #[.int .i64 x225000_1, .int .i64 x225001_1] 24 (0, 0))) := ⟨by rw [← hq_]; exact (by (with_reducible repeat (first | refine blk_drewN ?_ _ | refine blk_drew ?_ | refine blk_alloc ?_ _)); exact BK224.out)⟩; have n2_ : Aside0 (w66.heap[gb225]? = some (.cells #[.int .i64 x6_1, .int .i64 (wrap64 ((wrap64 (x8_1 - x7_1)) + 1))] 24 (0, 0))) := ⟨by rw [← hq_]; exact (by (with_reducible repeat (first | refine blk_drewN ?_ _ | refine blk_drew ?_ | refine blk_alloc ?_ _)); exact BK225.out)⟩; have n3_ : Aside0 (Below w.heap.size w w66) := ⟨by rw [← hq_]; exact (by repeat (first | (with_reducible first | exact HB.out | apply below_alloc | apply pw_below_drewN | apply below_drew1 | refine below_set ?_ GE224.out | refine below_set ?_ GE225.out) | exact HB.out))⟩; clear HO_5 BK224 BK225 HB hq_; have HO_5 := n0_; have BK224 := n1_; have BK225 := n2_; have HB := n3_; clear n0_ n1_ n2_ n3_))
                  have n0_ := Aside0.mk (Kd.R_drew HO_5.out)
                  have n1_ := Aside0.mk (blk_drew BK224.out)
                  have n2_ := Aside0.mk (blk_drew BK225.out)
                  have n3_ := Aside0.mk (below_drew1 HB.out)
                  clear HO_5
                  clear BK224
                  clear BK225
                  clear HB
                  have HO_5 := n0_
                  have BK224 := n1_
                  have BK225 := n2_
                  have HB := n3_
                  clear n0_ n1_ n2_ n3_
                  refine start_ (n := 4) (S := fun w' => w'.cell? ⟨gb225, 0, none⟩ = some (.int .i64 x6_1) ∧ w'.cell? ⟨gb225, 1, none⟩ = some (.int .i64 (wrap64 ((wrap64 (x8_1 - x7_1)) + 1)))) (ds := []) #[false, false, false, false] (by kernel_rfl) rfl rfl ⟨(blk_cell BK225.out 0).trans rfl, (blk_cell BK225.out 1).trans rfl⟩ (fun hHeld => ?_)
                  generalize w66.drew = w67 at HO_5 BK224 BK225 HB hHeld ⊢
                  refine pure_ (i := 1) (N := some 2) (v := ?_) (a' := ?_) #[false, true, false, false] rfl rfl (by kernel_rfl) (fun _ _ _ h => h) (Or.inl ⟨by rfl, ?_⟩) ?_ ?_
                  rotate_left
                  · intro w'
                    go_simp
                    with_reducible rfl
                  rotate_left
                  · simp only [Act.put, List.setIfInBounds_toArray, List.set_cons_zero, List.set_cons_succ, i64_w, i32_w]
                    rfl
                  refine take_ (i := 0) (N := some 85) (v := ?_) (a' := ?_) #[true, true, false, false] rfl rfl (by kernel_rfl) (fun _ _ _ h => h) (Or.inl ⟨by rfl, ?_⟩) hHeld ?_ ?_
                  rotate_left
                  · rintro w' ⟨s0, s1⟩
                    go_simp
                    with_reducible rfl
                  rotate_left
                  · simp only [Act.put, List.setIfInBounds_toArray, List.set_cons_zero, List.set_cons_succ, i64_w, i32_w]
                    rfl
                  refine one_ (i := 2) (N := none) #[true, true, true, false] rfl rfl (by kernel_rfl) (by decide) (fun K hK => ?_)
                  have hs68 : w67.cell? ⟨gb224, 0, none⟩ = some (.int .i64 x225000_1) := (blk_cell BK224.out 0).trans rfl
                  have hfs68 := blk_frozen BK224.out 0
                  have hns68_1 := NB225_224.out
                  have hms68_1 := NB224_225.out
                  have hs69 : w67.cell? ⟨gb224, 1, none⟩ = some (.int .i64 x225001_1) := (blk_cell BK224.out 1).trans rfl
                  have hfs69 := blk_frozen BK224.out 1
                  have hns69_1 := NB225_224.out
                  have hms69_1 := NB224_225.out
                  refine skip_ (w1 := ?_) (by rfl) rfl ?_ ?_
                  rotate_left
                  · go_simp
                    rfl
                  refine hK.out _ _ ⟨((cell_far (p := ⟨gb224, _, none⟩) NB225_224.out _).trans (((cell_far (p := ⟨gb224, _, none⟩) NB225_224.out _).trans (hHeld.1)))), ((cell_far (p := ⟨gb224, _, none⟩) NB225_224.out _).trans (((cell_far (p := ⟨gb224, _, none⟩) NB225_224.out _).trans (hHeld.2))))⟩ (fun hHeld => ?_)
                  clear hK K
                  refine pure_ (i := 3) (N := some 4) (v := ?_) (a' := ?_) #[true, true, true, true] rfl rfl (by kernel_rfl) (fun _ _ _ h => h) (Or.inl ⟨by rfl, ?_⟩) ?_ ?_
                  rotate_left
                  · intro w'
                    go_simp
                    with_reducible rfl
                  rotate_left
                  · simp only [Act.put, List.setIfInBounds_toArray, List.set_cons_zero, List.set_cons_succ, i64_w, i32_w]
                    rfl
                  refine done_ (by kernel_rfl) ?_
                  try go_wp2
                  refine bodyPost_ret (results_list (rs := [.tmp 2, .cell 3 24, .tmp 4]) rfl (by simp) (.tmp (.cell gb224 24 #[.int .i64 x6_1, .int .i64 (wrap64 ((wrap64 (x8_1 - x7_1)) + 1))] (0, 0) _ rfl (by (with_reducible repeat (first | refine blk_drewN ?_ _ | refine blk_drew ?_ | refine blk_alloc ?_ _)); refine blk_put (cs := #[.int .i64 x6_1, .int .i64 x225001_1]) ?_ 1 _ rfl; (with_reducible repeat (first | refine blk_drewN ?_ _ | refine blk_drew ?_ | refine blk_alloc ?_ _)); refine blk_put (cs := #[.int .i64 x225000_1, .int .i64 x225001_1]) ?_ 0 _ rfl; (with_reducible repeat (first | refine blk_drewN ?_ _ | refine blk_drew ?_ | refine blk_alloc ?_ _)); exact BK224.out) Try.underlying24 rfl (by kernel_rfl) (.tmp .nil)))) rfl ?_
                  exact ⟨_, by first | rfl | (simp [errW_none, errW_some] <;> rfl) | (simp [*, errW_none, errW_some] <;> rfl), by first | exact Kd.R_nil _ _ _ _ _ | exact Kd.N_nil _ _ _ _ _ | exact Kd.V_nil _ _ _ _ _ | exact Kd.Q_nil _ _ _ _ _ | exact Kd.S_nil _ _ _ _ _, by repeat (first | (with_reducible first | exact HB.out | apply below_alloc | apply pw_below_drewN | apply below_drew1 | refine below_set ?_ GE224.out | refine below_set ?_ GE225.out) | exact HB.out)⟩
            · rw [if_neg c11] at H
              exact absurd H (by simp)
          case rest =>
            clear HC7
            try clear c1
            try clear p1
            try clear q1
            try clear hx1
            try clear c2
            try clear p2
            try clear c3
            try clear c4
            try clear p6
            try clear c11
            try clear p12
            try clear q12
            try clear hx12
            try clear p15
            try clear q15
            try clear hx15
            try clear c17
            try clear c20
            try clear c21
            try clear c26
            try clear c27
            try clear c28
            try clear c30
            try clear c36
            try clear c36b0
            try clear c36b1
            try clear c37
            try clear c48
            try clear c49
            try clear p64
            try clear hcz50_0
            try clear hcz50_1
            try clear hcz50_2
            try clear hcz50_3
            try clear hcz50_4
            try clear hfz50_0
            try clear hfz50_1
            try clear hfz50_2
            try clear hfz50_3
            try clear hfz50_4
            try clear p12
            try clear p15
            try clear q12
            try clear q15
            obtain ⟨kq, x5_6, x8_6, x225000_6, x225001_6, rfl, HA, HJ6, HO_5, BK224, BK225, HB⟩ := hcut
            cases kq with
            | zero => exact absurd HA.out (by simp [wispref09_Scan.j1])
            | succ kj6 =>
              have H := HA.out
              clear HA
              simp only [wispref09_Scan.j1] at H
              have H' := Aside0.mk H
              clear H
              go_wp2
              go_loopg [6, 7, 14] kj6 (fun kq v6 v7 v14 w' => ∃ (x6_3 : Int) (x7_3 : Int) (x14_3 : Int), v6 = .int .i64 x6_3 ∧ v7 = .int .i64 x7_3 ∧ v14 = .int .i64 x14_3 ∧ Aside0 (wispref09_Scan.l1 kq a0 x5_6 x6_3 x7_3 x8_6 x14_3 = some (r1, r2, r3, r4)) ∧ Aside0 (kq ≤ kj6) ∧ Aside0 (Kd.R k30 30 w' w.heap.size (fun _ => True) u5 x5_6) ∧ Aside0 (w'.heap[gb224]? = some (.cells #[.int .i64 x225000_6, .int .i64 x225001_6] 24 (0, 0))) ∧ Aside0 (w'.heap[gb225]? = some (.cells #[.int .i64 x6_1, .int .i64 (wrap64 ((wrap64 (x8_1 - x7_1)) + 1))] 24 (0, 0))) ∧ Aside0 (Below w.heap.size w w'))
              case atStart => exact ⟨(x6_1), (x7_1), (x8_1), (by first | rfl | (simp; done) | (simp [*]; done) | (simp [isEmpty_ne]; done)), (by first | rfl | (simp; done) | (simp [*]; done) | (simp [isEmpty_ne]; done)), (by first | rfl | (simp; done) | (simp [*]; done) | (simp [isEmpty_ne]; done)), H', ⟨Nat.le_refl _⟩, ⟨by (with_reducible repeat (first | apply Kd.R_alloc | apply Kd.R_drewN | apply Kd.R_drew)); exact HO_5.out⟩, ⟨by (with_reducible repeat (first | refine blk_drewN ?_ _ | refine blk_drew ?_ | refine blk_alloc ?_ _)); exact BK224.out⟩, ⟨by (with_reducible repeat (first | refine blk_drewN ?_ _ | refine blk_drew ?_ | refine blk_alloc ?_ _)); exact BK225.out⟩, ⟨by repeat (first | (with_reducible first | exact HB.out | apply below_alloc | apply pw_below_drewN | apply below_drew1 | refine below_set ?_ GE224.out | refine below_set ?_ GE225.out) | exact HB.out)⟩⟩
              case round =>
                clear H'
                try clear c1
                try clear p1
                try clear q1
                try clear hx1
                try clear c2
                try clear p2
                try clear c3
                try clear c4
                try clear p6
                try clear c11
                try clear p12
                try clear q12
                try clear hx12
                try clear p15
                try clear q15
                try clear hx15
                try clear c17
                try clear c20
                try clear c21
                try clear c26
                try clear c27
                try clear c28
                try clear c30
                try clear c36
                try clear c36b0
                try clear c36b1
                try clear c37
                try clear c48
                try clear c49
                try clear p64
                try clear hcz50_0
                try clear hcz50_1
                try clear hcz50_2
                try clear hcz50_3
                try clear hcz50_4
                try clear hfz50_0
                try clear hfz50_1
                try clear hfz50_2
                try clear hfz50_3
                try clear hfz50_4
                try clear p1
                try clear p12
                try clear p15
                try clear p2
                try clear p6
                try clear p64
                try clear q1
                try clear q12
                try clear q15
                obtain ⟨x6_3, x7_3, x14_3, rfl, rfl, rfl, HA, HK3, HO_5, BK224, BK225, HB⟩ := hrel
                cases gk with
                | zero => exact absurd HA.out (by simp [wispref09_Scan.l1])
                | succ k3 =>
                  have H := HA.out
                  clear HA
                  simp only [wispref09_Scan.l1] at H
                  by_cases c70 : x14_3 < x8_6
                  · rw [if_pos c70] at H
                    have c70b0 : decide (x14_3 < x8_6) = true := decide_eq_true c70
                    clear c70
                    by_cases c71 : 0 ≤ x14_3
                    · rw [if_pos c71] at H
                      have c71b0 : decide (0 ≤ x14_3) = true := decide_eq_true c71
                      clear c71
                      by_cases c72 : x14_3 < (a0.size : Int)
                      · rw [if_pos c72] at H
                        have c72b0 : decide (x14_3 < (a0.size : Int)) = true := decide_eq_true c72
                        clear c72
                        by_cases c74 : (bt a0 x14_3) = 10
                        · rw [if_pos c74] at H
                          have c74b0 : ((bt a0 x14_3) == 10) = true := beq_iff_eq.mpr c74
                          have c74b1 : ((bt a0 x14_3) != 10) = false := bne_eq_false_iff_eq.mpr c74
                          clear c74
                          have H' := Aside0.mk H
                          clear H
                          have p73 : 0 ≤ (x14_3 : Int) := of_decide_eq_true (by first | (with_reducible assumption) | assumption)
                          have q73 : x14_3 < (a0.size : Int) := of_decide_eq_true (by first | (with_reducible assumption) | assumption)
                          have hx73 := bt_at a0 x14_3
                          replace p73 := eq_true p73
                          replace q73 := eq_true q73
                          go_wp2
                          go_roundg k3
                          case measure => have := HK1.out; have := HJ6.out; have := HK3.out; omega
                          case rel => exact ⟨(wrap64 (x6_3 + 1)), (wrap64 (x14_3 + 1)), (wrap64 (x14_3 + 1)), (by first | rfl | (simp; done) | (simp [*]; done) | (simp [isEmpty_ne]; done)), (by first | rfl | (simp; done) | (simp [*]; done) | (simp [isEmpty_ne]; done)), (by first | rfl | (simp; done) | (simp [*]; done) | (simp [isEmpty_ne]; done)), H', ⟨by have := HK1.out; have := HJ6.out; have := HK3.out; omega⟩, ⟨by (with_reducible repeat (first | apply Kd.R_alloc | apply Kd.R_drewN | apply Kd.R_drew)); exact HO_5.out⟩, ⟨by (with_reducible repeat (first | refine blk_drewN ?_ _ | refine blk_drew ?_ | refine blk_alloc ?_ _)); exact BK224.out⟩, ⟨by (with_reducible repeat (first | refine blk_drewN ?_ _ | refine blk_drew ?_ | refine blk_alloc ?_ _)); exact BK225.out⟩, ⟨by repeat (first | (with_reducible first | exact HB.out | apply below_alloc | apply pw_below_drewN | apply below_drew1 | refine below_set ?_ GE224.out | refine below_set ?_ GE225.out) | exact HB.out)⟩⟩
                        · rw [if_neg c74] at H
                          have c74b0 : ((bt a0 x14_3) == 10) = false := beq_eq_false_iff_ne.mpr c74
                          have c74b1 : ((bt a0 x14_3) != 10) = true := bne_iff_ne.mpr c74
                          have H' := Aside0.mk H
                          clear H
                          have p73 : 0 ≤ (x14_3 : Int) := of_decide_eq_true (by first | (with_reducible assumption) | assumption)
                          have q73 : x14_3 < (a0.size : Int) := of_decide_eq_true (by first | (with_reducible assumption) | assumption)
                          have hx73 := bt_at a0 x14_3
                          replace p73 := eq_true p73
                          replace q73 := eq_true q73
                          go_wp2
                          go_roundg k3
                          case measure => have := HK1.out; have := HJ6.out; have := HK3.out; omega
                          case rel => exact ⟨(x6_3), (x7_3), (wrap64 (x14_3 + 1)), (by first | rfl | (simp; done) | (simp [*]; done) | (simp [isEmpty_ne]; done)), (by first | rfl | (simp; done) | (simp [*]; done) | (simp [isEmpty_ne]; done)), (by first | rfl | (simp; done) | (simp [*]; done) | (simp [isEmpty_ne]; done)), H', ⟨by have := HK1.out; have := HJ6.out; have := HK3.out; omega⟩, ⟨by (with_reducible repeat (first | apply Kd.R_alloc | apply Kd.R_drewN | apply Kd.R_drew)); exact HO_5.out⟩, ⟨by (with_reducible repeat (first | refine blk_drewN ?_ _ | refine blk_drew ?_ | refine blk_alloc ?_ _)); exact BK224.out⟩, ⟨by (with_reducible repeat (first | refine blk_drewN ?_ _ | refine blk_drew ?_ | refine blk_alloc ?_ _)); exact BK225.out⟩, ⟨by repeat (first | (with_reducible first | exact HB.out | apply below_alloc | apply pw_below_drewN | apply below_drew1 | refine below_set ?_ GE224.out | refine below_set ?_ GE225.out) | exact HB.out)⟩⟩
                      · rw [if_neg c72] at H
                        exact absurd H (by simp)
                    · rw [if_neg c71] at H
                      exact absurd H (by simp)
                  · rw [if_neg c70] at H
                    have c70b0 : decide (x14_3 < x8_6) = false := decide_eq_false c70
                    clear c70
                    have H' := Aside0.mk H
                    clear H
                    go_wp2
                    go_roundg k3
                    case measure => have := HK1.out; have := HJ6.out; have := HK3.out; omega
                    case rel => exact ⟨(x5_6), (x6_3), (x7_3), (x8_6), (x225000_6), (x225001_6), (by first | rfl | (simp; done) | (simp [*]; done) | (simp [isEmpty_ne]; done)), (by first | rfl | (simp; done) | (simp [*]; done) | (simp [isEmpty_ne]; done)), (by first | rfl | (simp; done) | (simp [*]; done) | (simp [isEmpty_ne]; done)), H', ⟨by have := HK1.out; have := HJ6.out; have := HK3.out; omega⟩, ⟨by (with_reducible repeat (first | apply Kd.R_alloc | apply Kd.R_drewN | apply Kd.R_drew)); exact HO_5.out⟩, ⟨by (with_reducible repeat (first | refine blk_drewN ?_ _ | refine blk_drew ?_ | refine blk_alloc ?_ _)); exact BK224.out⟩, ⟨by repeat (first | (with_reducible first | exact HB.out | apply below_alloc | apply pw_below_drewN | apply below_drew1 | refine below_set ?_ GE224.out | refine below_set ?_ GE225.out) | exact HB.out)⟩⟩
        · rw [if_neg c6] at H
          have c6b0 : decide (x8_1 < (a0.size : Int)) = false := decide_eq_false c6
          clear c6
          simp only [Option.some.injEq, Prod.mk.injEq] at H
          obtain ⟨rfl, rfl, rfl, rfl⟩ := H
          have hcz75_0 : wr.cell? ⟨gb224, 0, none⟩ = some (.int .i64 x225000_1) := (blk_cell BK224.out 0).trans rfl
          have hcz75_1 : wr.cell? ⟨gb224, 1, none⟩ = some (.int .i64 x225001_1) := (blk_cell BK224.out 1).trans rfl
          have hfz75_0 := blk_frozen BK224.out 0
          have hfz75_1 := blk_frozen BK224.out 1
          go_wp2
          refine bodyPost_ret (results_list (rs := [.tmp 2, .cell 3 24, .tmp 4]) rfl (by simp) (.tmp (.cell gb224 24 #[.int .i64 0, .int .i64 0] (0, 0) _ rfl (by (with_reducible repeat (first | refine blk_drewN ?_ _ | refine blk_drew ?_ | refine blk_alloc ?_ _)); refine blk_put (cs := #[.int .i64 0, .int .i64 x225001_1]) ?_ 1 _ rfl; (with_reducible repeat (first | refine blk_drewN ?_ _ | refine blk_drew ?_ | refine blk_alloc ?_ _)); refine blk_put (cs := #[.int .i64 x225000_1, .int .i64 x225001_1]) ?_ 0 _ rfl; (with_reducible repeat (first | refine blk_drewN ?_ _ | refine blk_drew ?_ | refine blk_alloc ?_ _)); exact BK224.out) Try.underlying24 rfl (by kernel_rfl) (.tmp .nil)))) rfl ?_
          exact ⟨_, by first | rfl | (simp [errW_none, errW_some] <;> rfl) | (simp [*, errW_none, errW_some] <;> rfl), by (with_reducible repeat (first | apply Kd.R_alloc | apply Kd.R_drewN | apply Kd.R_drew)); exact Kd.R_mono (Kd.R_far (p := ⟨gb224, 1, none⟩) (Kd.R_far (p := ⟨gb224, 0, none⟩) (Kd.R_types HO_5.out BK224.out (by decide)) (fun _ hk => hk.2) (.int .i64 0)) (fun _ hk => hk.2) (.int .i64 0)) (fun _ hk => trivial), by repeat (first | (with_reducible first | exact HB.out | apply below_alloc | apply pw_below_drewN | apply below_drew1 | refine below_set ?_ GE224.out) | exact HB.out)⟩

end Go.Proofs.Ytembdahclmffjaa.P
