/- Printed by a program of this session (it turns the kit's print): see wip/myprint. -/
import Derived.Test.YtembdahclmffjaaDoorPx0
import Derived.Test.YtembdahclmffjaaDoorPx4
namespace Go.Proofs.YtembdahclmffjaaDoor.P
open Go.RowKit Go.Proofs.YtembdahclmffjaaDoorW.PrintWords Go.Proofs.YtembdahclmffjaaDoorW.PrintLast Go.Proofs.YtembdahclmffjaaDoorW.PrintMore Go.Proofs.YtembdahclmffjaaDoor.Mine
attribute [local go_sem] max2_int min2_int max_two min_two max_three min_three max_four min_four   -- for this text's walks alone
set_option linter.unusedVariables false
set_option linter.unusedSimpArgs false

/-! ### wispref07_sections: function 43 -/
mutual
def wispref07_sections.l0 : Nat → List Int → Int → List Int → Int → List (S80) → List (S82) → Option ((List (S77)))
  | 0, _, _, _, _, _, _ => none
  | k + 1, x3, x4, x377000, x377001, x377002, x377003 => if x4 < (x377002.length : Int) then (if 0 ≤ x4 then ((wispref03_Low.f k (IntKind.u64.wrap ((rd_T80 x377002 x4).f0)) 2).bind fun t379 => (if x3.length + t379.length < 140737488355328 then ((some (x3 ++ t379 : List Int)).bind fun y382 => ((wispref03_Low.f k (IntKind.u64.wrap ((rd_T80 x377002 x4).f1)) 2).bind fun t385 => (if y382.length + t385.length < 140737488355328 then ((some (y382 ++ t385 : List Int)).bind fun y388 => ((wispref03_Low.f k (IntKind.u64.wrap ((rd_T80 x377002 x4).f2)) 2).bind fun t391 => (if y388.length + t391.length < 140737488355328 then (wispref07_sections.l0 k (y388 ++ t391) (wrap64 (x4 + 1)) x377000 x377001 x377002 x377003) else (none)))) else (none)))) else (none))) else (none)) else (wispref07_sections.l1 k (([(⟨1, 0, x377000⟩ : S77), (⟨2, 0, x3⟩ : S77)] : List (S77))) 0 x377000 x377001 x377002 x377003)
def wispref07_sections.l1 : Nat → List (S77) → Int → List Int → Int → List (S80) → List (S82) → Option ((List (S77)))
  | 0, _, _, _, _, _, _ => none
  | k + 1, x6, x7, x377000, x377001, x377002, x377003 => if x7 < (x377003.length : Int) then (if 0 ≤ x7 then (if x6.length < 4398046511104 then (wispref07_sections.l1 k (x6 ++ [(⟨3, ((rd_T82 x377003 x7).f0) % 256, (rd_T82 x377003 x7).f1⟩ : S77)]) (wrap64 (x7 + 1)) x377000 x377001 x377002 x377003) else (none)) else (none)) else (some x6)
end
def wispref07_sections.f (k : Nat) (l0_0 : List Int) (a0_1 : Int) (l0_2 : List (S80)) (l0_3 : List (S82)) : Option ((List (S77))) := wispref07_sections.l0 k ([] : List Int) 0 l0_0 a0_1 l0_2 l0_3
theorem wispref07_sections.mono_l : ∀ k, (∀ y0 y1 y2 y3 y4 y5, LeO (wispref07_sections.l0 k y0 y1 y2 y3 y4 y5) (wispref07_sections.l0 (k + 1) y0 y1 y2 y3 y4 y5)) ∧ (∀ y0 y1 y2 y3 y4 y5, LeO (wispref07_sections.l1 k y0 y1 y2 y3 y4 y5) (wispref07_sections.l1 (k + 1) y0 y1 y2 y3 y4 y5))
  | 0 => ⟨fun _ _ _ _ _ _ r h => by simp [wispref07_sections.l0] at h, fun _ _ _ _ _ _ r h => by simp [wispref07_sections.l1] at h⟩
  | k + 1 => by
    obtain ⟨ih0, ih1⟩ := wispref07_sections.mono_l k
    refine ⟨?_, ?_⟩
    · intro y0 y1 y2 y3 y4 y5
      unfold wispref07_sections.l0
      repeat' first
      | (with_reducible exact ih0 _ _ _ _ _ _)
      | (with_reducible exact ih1 _ _ _ _ _ _)
      | (with_reducible exact wispref03_Low.mono _ _ _)
      | (with_reducible exact LeO.refl _)
      | (with_reducible exact LeO.none _)
      | (with_reducible refine LeO.ite ?_ ?_)
      | (with_reducible refine LeO.bind ?_ (fun _ => ?_))
      | exact ih0 _ _ _ _ _ _
      | exact ih1 _ _ _ _ _ _
      | exact wispref03_Low.mono _ _ _
      | exact LeO.none _
      | refine LeO.ite ?_ ?_
      | refine LeO.bind ?_ (fun _ => ?_)
    · intro y0 y1 y2 y3 y4 y5
      unfold wispref07_sections.l1
      repeat' first
      | (with_reducible exact ih0 _ _ _ _ _ _)
      | (with_reducible exact ih1 _ _ _ _ _ _)
      | (with_reducible exact wispref03_Low.mono _ _ _)
      | (with_reducible exact LeO.refl _)
      | (with_reducible exact LeO.none _)
      | (with_reducible refine LeO.ite ?_ ?_)
      | (with_reducible refine LeO.bind ?_ (fun _ => ?_))
      | exact ih0 _ _ _ _ _ _
      | exact ih1 _ _ _ _ _ _
      | exact wispref03_Low.mono _ _ _
      | exact LeO.none _
      | refine LeO.ite ?_ ?_
      | refine LeO.bind ?_ (fun _ => ?_)
theorem wispref07_sections.mono : ∀ a0 a1 a2 a3 k, LeO (wispref07_sections.f k a0 a1 a2 a3) (wispref07_sections.f (k + 1) a0 a1 a2 a3) := by
  intro a0 a1 a2 a3 k
  obtain ⟨ih0, ih1⟩ := wispref07_sections.mono_l k
  unfold wispref07_sections.f
  repeat' first
      | (with_reducible exact ih0 _ _ _ _ _ _)
      | (with_reducible exact ih1 _ _ _ _ _ _)
      | (with_reducible exact wispref03_Low.mono _ _ _)
      | (with_reducible exact LeO.refl _)
      | (with_reducible exact LeO.none _)
      | (with_reducible refine LeO.ite ?_ ?_)
      | (with_reducible refine LeO.bind ?_ (fun _ => ?_))
      | exact ih0 _ _ _ _ _ _
      | exact ih1 _ _ _ _ _ _
      | exact wispref03_Low.mono _ _ _
      | exact LeO.none _
      | refine LeO.ite ?_ ?_
      | refine LeO.bind ?_ (fun _ => ?_)
def wispref07_sections.T13 : Bool × List (List Nat × List Nat) := (true, [([], []), ([], []), ([1], [1]), ([], []), ([2, 3], [2, 3]), ([4], [4]), ([5], [5]), ([6], [6]), ([], []), ([8], [8]), ([], []), ([9, 10], [9, 10]), ([11], [11]), ([12], [12]), ([7, 13], [7, 13]), ([14], [14]), ([0, 15], [0, 15]), ([16, 16, 0, 1, 2, 3, 4, 5, 6, 7, 8, 9, 10, 11, 12, 13, 14, 15, 16], [0, 16])])
def wispref07_sections.B13 : List Nat := [0, 0, 2, 0, 14, 30, 62, 126, 0, 256, 0, 1792, 3840, 7936, 16382, 32766, 65535, 131071]
theorem wispref07_sections.tab13 : rtab .any (opsOf Tryd.f43 13) = wispref07_sections.T13 := by kernel_rfl
theorem wispref07_sections.bits13 : waitsOk wispref07_sections.T13.2 wispref07_sections.B13 = true := by kernel_rfl
set_option maxHeartbeats 8000000 in
set_option maxRecDepth 100000 in
theorem wispref07_sections.calls (k : Nat) (P0_0_ : Nat → Prop) (A0_0 : Option Addr) (c0_0 : Nat) (l0_0 : List Int) (a0_1 : Int) (A0_2 : Option Addr) (c0_2 : Nat) (l0_2 : List (S80)) (P0_3_ : Nat → Prop) (A0_3 : Option Addr) (c0_3 : Nat) (l0_3 : List (S82)) (r : List (S77)) (w : World) (hs0_0 : Kd.V (Kd.int .u8) 5 w w.heap.size (fun k_ => P0_0_ k_) (.slice A0_0 l0_0.length c0_0) l0_0) (hr0_2 : Kd.C k80 w A0_2 l0_2.length l0_2) (hc0_2 : l0_2.length ≤ c0_2) (hs0_3 : Kd.V k82 82 w w.heap.size (fun k_ => P0_3_ k_) (.slice A0_3 l0_3.length c0_3) l0_3) (h : wispref07_sections.f k l0_0 a0_1 l0_2 l0_3 = some r) :
    Calls Tryd.prog 43 #[.agg #[.slice A0_0 l0_0.length c0_0, .int .u16 a0_1, .slice A0_2 l0_2.length c0_2, .slice A0_3 l0_3.length c0_3]] w fun e w' => ∃ v0_ : Value, e = .returned (v0_) ∧ Kd.N k77 77 w' w.heap.size (fun k_ => ((P0_0_ k_ ∨ P0_3_ k_) ∨ w.heap.size ≤ k_)) v0_ r ∧ Below w.heap.size w w' := by
  have hu28 := Tryd.underlying28
  have hu80 := Tryd.underlying80
  have hu77 := Tryd.underlying77
  have HO0_0 := Aside0.mk (show Kd.V (Kd.int .u8) 5 w w.heap.size (fun k_ => ((P0_0_ k_ ∨ P0_3_ k_) ∨ w.heap.size ≤ k_)) (.slice A0_0 l0_0.length c0_0) l0_0 from Kd.V_mono hs0_0 (fun k_ hk => .inl (.inl hk)))
  have HR0_2 := Aside0.mk hr0_2
  have HC0_2 := Aside0.mk hc0_2
  clear hr0_2 hc0_2
  have HO0_3 := Aside0.mk (show Kd.V k82 82 w w.heap.size (fun k_ => ((P0_0_ k_ ∨ P0_3_ k_) ∨ w.heap.size ≤ k_)) (.slice A0_3 l0_3.length c0_3) l0_3 from Kd.V_mono hs0_3 (fun k_ hk => .inl (.inr hk)))
  have HB := Aside0.mk (Below.refl w.heap.size w)
  have H : (wispref07_sections.l0 k ([] : List Int) 0 l0_0 a0_1 l0_2 l0_3) = some r := h
  clear h
  have H' := Aside0.mk H
  clear H
  go_enter Tryd.func43, Tryd.ntmps43
  go_wp2_with (first | ((with_reducible refine gate_dst (N := 1) rfl ?_); refine box_event ?hg (N := 1) ?hd (cs := #[.slice A0_0 l0_0.length c0_0, .int .u16 a0_1, .slice A0_2 l0_2.length c0_2, .slice A0_3 l0_3.length c0_3]) (t := 28) ?hr ?_; (case hd => rfl); (case hg => rfl); (case hr => first | (go_simp; done) | (go_simp; rfl)); intro gb376 hg w2 hbox hb; have n0_ := Aside0.mk (Kd.V_below (Kd.V_elderB (by (with_reducible repeat (first | apply Kd.V_alloc | apply Kd.V_drewN | apply Kd.V_drew)); exact HO0_0.out) gb376 (Nat.le_of_eq hg.symm)) hb); have n1_ := Aside0.mk (Kd.V_below (Kd.V_elderB (by (with_reducible repeat (first | apply Kd.V_alloc | apply Kd.V_drewN | apply Kd.V_drew)); exact HO0_3.out) gb376 (Nat.le_of_eq hg.symm)) hb); have n2_ := Aside0.mk (below_step (by repeat (first | (with_reducible first | exact HB.out | apply below_alloc | apply pw_below_drewN | apply below_drew1) | exact HB.out)) hb); have n3_ := Aside0.mk (hbox); have n4_ := Aside0.mk ((by rw [hg]; exact (below_size (by repeat (first | (with_reducible first | exact HB.out | apply below_alloc | apply pw_below_drewN | apply below_drew1) | exact HB.out))) : w.heap.size ≤ gb376)); have n5_ := Aside0.mk ((by rw [hg]; exact (below_size (by repeat (first | (with_reducible first | exact HB.out | apply below_alloc | apply pw_below_drewN | apply below_drew1) | exact HB.out))) : w.heap.size ≤ gb376)); clear HO0_0; clear HO0_3; clear HB; have HO0_0 := n0_; have HO0_3 := n1_; have HB := n2_; have BK376 := n3_; have GW376 := n4_; have GE376 := n5_; clear n0_ n1_ n2_ n3_ n4_ n5_; clear hb hbox hg))
  go_loopg [3, 4] k (fun kq v3 v4 w' => ∃ (x3_1 : List Int) (x4_1 : Int), v4 = .int .i64 x4_1 ∧ Aside0 (wispref07_sections.l0 kq x3_1 x4_1 l0_0 a0_1 l0_2 l0_3 = some r) ∧ Aside0 (kq ≤ k) ∧ Aside0 (Kd.R (Kd.int .u8) 5 w' w.heap.size (fun k_ => (w.heap.size ≤ k_)) v3 x3_1) ∧ Aside0 (Kd.V (Kd.int .u8) 5 w' w.heap.size (fun k_ => ((P0_0_ k_ ∨ P0_3_ k_) ∨ w.heap.size ≤ k_) ∧ some k_ ≠ (v3 : Value).ownBlock ∧ k_ ≠ gb376) (.slice A0_0 l0_0.length c0_0) l0_0) ∧ Aside0 (Kd.V k82 82 w' w.heap.size (fun k_ => ((P0_0_ k_ ∨ P0_3_ k_) ∨ w.heap.size ≤ k_) ∧ some k_ ≠ (v3 : Value).ownBlock ∧ k_ ≠ gb376) (.slice A0_3 l0_3.length c0_3) l0_3) ∧ Aside0 (w'.heap[gb376]? = some (.cells #[(.slice A0_0 l0_0.length c0_0), .int .u16 a0_1, (.slice A0_2 l0_2.length c0_2), (.slice A0_3 l0_3.length c0_3)] 28 (0, 0))) ∧ Aside0 (Below w.heap.size w w'))
  case atStart => exact ⟨(([] : List Int)), (0), (by first | rfl | (simp; done) | (simp [*]; done) | (simp [isEmpty_ne]; done)), H', ⟨Nat.le_refl _⟩, ⟨by first | exact Kd.R_nil _ _ _ _ _ | exact Kd.N_nil _ _ _ _ _ | exact Kd.V_nil _ _ _ _ _ | exact Kd.Q_nil _ _ _ _ _ | exact Kd.S_nil _ _ _ _ _⟩, ⟨by (with_reducible repeat (first | apply Kd.V_alloc | apply Kd.V_drewN | apply Kd.V_drew)); exact Kd.V_mono HO0_0.out (fun _ hk => ⟨hk.1, ⟨(by simp [Value.ownBlock]), hk.2⟩⟩)⟩, ⟨by (with_reducible repeat (first | apply Kd.V_alloc | apply Kd.V_drewN | apply Kd.V_drew)); exact Kd.V_mono HO0_3.out (fun _ hk => ⟨hk.1, ⟨(by simp [Value.ownBlock]), hk.2⟩⟩)⟩, ⟨by (with_reducible repeat (first | refine blk_drewN ?_ _ | refine blk_drew ?_ | refine blk_alloc ?_ _)); exact BK376.out⟩, ⟨by repeat (first | (with_reducible first | exact HB.out | apply below_alloc | apply pw_below_drewN | apply below_drew1 | refine below_set ?_ GE376.out) | exact HB.out)⟩⟩
  case round =>
    clear H'
    try clear p2
    obtain ⟨x3_1, x4_1, rfl, HA, HK1, HO_3, HO_377000, HO_377003, BK376, HB⟩ := hrel
    cases gk with
    | zero => exact absurd HA.out (by simp [wispref07_sections.l0])
    | succ k1 =>
      have H := HA.out
      clear HA
      simp only [wispref07_sections.l0] at H
      by_cases c3 : x4_1 < (l0_2.length : Int)
      · rw [if_pos c3] at H
        have c3b0 : decide (x4_1 < (l0_2.length : Int)) = true := decide_eq_true c3
        clear c3
        by_cases c4 : 0 ≤ x4_1
        · rw [if_pos c4] at H
          have c4b0 : decide (0 ≤ x4_1) = true := decide_eq_true c4
          clear c4
          replace H := Option.bind_eq_some_iff.mp H
          obtain ⟨t379, A50, H⟩ := H
          replace H : (if x3_1.length + t379.length < 140737488355328 then ((some (x3_1 ++ t379 : List Int)).bind fun y382 => ((wispref03_Low.f k1 (IntKind.u64.wrap ((rd_T80 l0_2 x4_1).f1)) 2).bind fun t385 => (if y382.length + t385.length < 140737488355328 then ((some (y382 ++ t385 : List Int)).bind fun y388 => ((wispref03_Low.f k1 (IntKind.u64.wrap ((rd_T80 l0_2 x4_1).f2)) 2).bind fun t391 => (if y388.length + t391.length < 140737488355328 then (wispref07_sections.l0 k1 (y388 ++ t391) (wrap64 (x4_1 + 1)) l0_0 a0_1 l0_2 l0_3) else (none)))) else (none)))) else (none)) = some r := H
          have A5 := Aside0.mk A50
          clear A50
          by_cases c6 : x3_1.length + t379.length < 140737488355328
          · rw [if_pos c6] at H
            have LMc6 := Aside0.mk c6
            clear c6
            obtain ⟨y382, hy382⟩ : ∃ y_ : List Int, y_ = (x3_1 ++ t379) := ⟨_, rfl⟩
            replace H : ((wispref03_Low.f k1 (IntKind.u64.wrap ((rd_T80 l0_2 x4_1).f1)) 2).bind fun t385 => (if y382.length + t385.length < 140737488355328 then ((some (y382 ++ t385 : List Int)).bind fun y388 => ((wispref03_Low.f k1 (IntKind.u64.wrap ((rd_T80 l0_2 x4_1).f2)) 2).bind fun t391 => (if y388.length + t391.length < 140737488355328 then (wispref07_sections.l0 k1 (y388 ++ t391) (wrap64 (x4_1 + 1)) l0_0 a0_1 l0_2 l0_3) else (none)))) else (none))) = some r := by first | (rw [hy382]; with_reducible exact H) | (have H2_ := (Option.bind_some _ _).symm.trans H; rw [hy382]; with_reducible exact H2_) | (have H2_ := (Option.bind_some _ _).symm.trans H; with_reducible exact H2_) | with_reducible exact H | (rw [hy382]; exact H) | exact H
            have Ny382 := Aside0.mk hy382
            clear hy382
            replace H := Option.bind_eq_some_iff.mp H
            obtain ⟨t385, A70, H⟩ := H
            replace H : (if y382.length + t385.length < 140737488355328 then ((some (y382 ++ t385 : List Int)).bind fun y388 => ((wispref03_Low.f k1 (IntKind.u64.wrap ((rd_T80 l0_2 x4_1).f2)) 2).bind fun t391 => (if y388.length + t391.length < 140737488355328 then (wispref07_sections.l0 k1 (y388 ++ t391) (wrap64 (x4_1 + 1)) l0_0 a0_1 l0_2 l0_3) else (none)))) else (none)) = some r := H
            have A7 := Aside0.mk A70
            clear A70
            by_cases c8 : y382.length + t385.length < 140737488355328
            · rw [if_pos c8] at H
              have LMc8 := Aside0.mk c8
              clear c8
              obtain ⟨y388, hy388⟩ : ∃ y_ : List Int, y_ = (y382 ++ t385) := ⟨_, rfl⟩
              replace H : ((wispref03_Low.f k1 (IntKind.u64.wrap ((rd_T80 l0_2 x4_1).f2)) 2).bind fun t391 => (if y388.length + t391.length < 140737488355328 then (wispref07_sections.l0 k1 (y388 ++ t391) (wrap64 (x4_1 + 1)) l0_0 a0_1 l0_2 l0_3) else (none))) = some r := by first | (rw [hy388]; with_reducible exact H) | (have H2_ := (Option.bind_some _ _).symm.trans H; rw [hy388]; with_reducible exact H2_) | (have H2_ := (Option.bind_some _ _).symm.trans H; with_reducible exact H2_) | with_reducible exact H | (rw [hy388]; exact H) | exact H
              have Ny388 := Aside0.mk hy388
              clear hy388
              replace H := Option.bind_eq_some_iff.mp H
              obtain ⟨t391, A90, H⟩ := H
              replace H : (if y388.length + t391.length < 140737488355328 then (wispref07_sections.l0 k1 (y388 ++ t391) (wrap64 (x4_1 + 1)) l0_0 a0_1 l0_2 l0_3) else (none)) = some r := H
              have A9 := Aside0.mk A90
              clear A90
              by_cases c10 : y388.length + t391.length < 140737488355328
              · rw [if_pos c10] at H
                have LMc10 := Aside0.mk c10
                clear c10
                obtain ⟨y394, hy394⟩ : ∃ y_ : List Int, y_ = (y388 ++ t391) := ⟨_, rfl⟩
                replace H : (wispref07_sections.l0 k1 y394 (wrap64 (x4_1 + 1)) l0_0 a0_1 l0_2 l0_3) = some r := by first | (rw [hy394]; with_reducible exact H) | (have H2_ := (Option.bind_some _ _).symm.trans H; rw [hy394]; with_reducible exact H2_) | (have H2_ := (Option.bind_some _ _).symm.trans H; with_reducible exact H2_) | with_reducible exact H | (rw [hy394]; exact H) | exact H
                have Ny394 := Aside0.mk hy394
                clear hy394
                have H' := Aside0.mk H
                clear H
                have hcz11_0 : wr.cell? ⟨gb376, 0, none⟩ = some (.slice A0_0 l0_0.length c0_0) := (blk_cell BK376.out 0).trans rfl
                have hcz11_1 : wr.cell? ⟨gb376, 1, none⟩ = some (.int .u16 a0_1) := (blk_cell BK376.out 1).trans rfl
                have hcz11_2 : wr.cell? ⟨gb376, 2, none⟩ = some (.slice A0_2 l0_2.length c0_2) := (blk_cell BK376.out 2).trans rfl
                have hcz11_3 : wr.cell? ⟨gb376, 3, none⟩ = some (.slice A0_3 l0_3.length c0_3) := (blk_cell BK376.out 3).trans rfl
                have hfz11_0 := blk_frozen BK376.out 0
                have hfz11_1 := blk_frozen BK376.out 1
                have hfz11_2 := blk_frozen BK376.out 2
                have hfz11_3 := blk_frozen BK376.out 3
                have p377 : 0 ≤ (x4_1 : Int) := of_decide_eq_true (by first | (with_reducible assumption) | assumption)
                have q377 : x4_1 < (l0_2.length : Int) := of_decide_eq_true (by first | (with_reducible assumption) | assumption)
                obtain ⟨ad377, e377, hx377_0, hx377_1, hx377_2⟩ := at_T80 HR0_2.out x4_1 p377 q377
                cases e377
                replace hx377_0 := (HB.out.cell (World.block_lt_of_cell? w _ hx377_0)).trans hx377_0
                replace hx377_1 := (HB.out.cell (World.block_lt_of_cell? w _ hx377_1)).trans hx377_1
                replace hx377_2 := (HB.out.cell (World.block_lt_of_cell? w _ hx377_2)).trans hx377_2
                replace p377 := eq_true p377
                replace q377 := eq_true q377
                go_wp2_with (first | ((with_reducible refine gate_dst (N := 5) rfl ?_); refine box_event ?hg (N := 5) ?hd (cs := #[.int .u16 0, .int .i64 0, .int .i64 0]) (t := 80) ?hr ?_; (case hd => rfl); (case hg => rfl); (case hr => first | (go_simp; done) | (go_simp; rfl)); intro gb378 hg w12 hbox hb; have n0_ := Aside0.mk (Kd.R_below (by (with_reducible repeat (first | apply Kd.R_alloc | apply Kd.R_drewN | apply Kd.R_drew)); exact HO_3.out) hb); have n1_ := Aside0.mk (Kd.V_below (Kd.V_elderB (by (with_reducible repeat (first | apply Kd.V_alloc | apply Kd.V_drewN | apply Kd.V_drew)); exact HO_377000.out) gb378 (Nat.le_of_eq hg.symm)) hb); have n2_ := Aside0.mk (Kd.V_below (Kd.V_elderB (by (with_reducible repeat (first | apply Kd.V_alloc | apply Kd.V_drewN | apply Kd.V_drew)); exact HO_377003.out) gb378 (Nat.le_of_eq hg.symm)) hb); have n3_ := Aside0.mk (blk_below (g := gb376) (o := .cells #[.slice A0_0 l0_0.length c0_0, .int .u16 a0_1, .slice (some ad377) l0_2.length c0_2, .slice A0_3 l0_3.length c0_3] 28 (0, 0)) (by (with_reducible repeat (first | refine blk_drewN ?_ _ | refine blk_drew ?_ | refine blk_alloc ?_ _)); exact BK376.out) hb); have n4_ := Aside0.mk (below_step (by repeat (first | (with_reducible first | exact HB.out | apply below_alloc | apply pw_below_drewN | apply below_drew1 | refine below_set ?_ GE376.out) | exact HB.out)) hb); have n5_ := Aside0.mk (hbox); have n6_ := Aside0.mk ((by rw [hg]; exact (below_size (by repeat (first | (with_reducible first | exact HB.out | apply below_alloc | apply pw_below_drewN | apply below_drew1 | refine below_set ?_ GE376.out) | exact HB.out))) : w.heap.size ≤ gb378)); have n7_ := Aside0.mk ((by rw [hg]; exact (below_size (by repeat (first | (with_reducible first | exact HB.out | apply below_alloc | apply pw_below_drewN | apply below_drew1 | refine below_set ?_ GE376.out) | exact HB.out))) : w.heap.size ≤ gb378)); have n8_ := Aside0.mk ((by rw [hg]; exact Nat.ne_of_lt (blk_lt (g := gb376) (o := .cells #[.slice A0_0 l0_0.length c0_0, .int .u16 a0_1, .slice (some ad377) l0_2.length c0_2, .slice A0_3 l0_3.length c0_3] 28 (0, 0)) (by (with_reducible repeat (first | refine blk_drewN ?_ _ | refine blk_drew ?_ | refine blk_alloc ?_ _)); exact BK376.out)) : gb376 ≠ gb378)); have n9_ := Aside0.mk ((by rw [hg]; exact Nat.ne_of_gt (blk_lt (g := gb376) (o := .cells #[.slice A0_0 l0_0.length c0_0, .int .u16 a0_1, .slice (some ad377) l0_2.length c0_2, .slice A0_3 l0_3.length c0_3] 28 (0, 0)) (by (with_reducible repeat (first | refine blk_drewN ?_ _ | refine blk_drew ?_ | refine blk_alloc ?_ _)); exact BK376.out)) : gb378 ≠ gb376)); clear HO_3; clear HO_377000; clear HO_377003; clear BK376; clear HB; have HO_3 := n0_; have HO_377000 := n1_; have HO_377003 := n2_; have BK376 := n3_; have HB := n4_; have BK378 := n5_; have GW378 := n6_; have GE378 := n7_; have NB376_378 := n8_; have NB378_376 := n9_; clear n0_ n1_ n2_ n3_ n4_ n5_ n6_ n7_ n8_ n9_; clear hb hbox hg; have hnb13 := NB378_376.out; have hnc13 := NB376_378.out; have hcz14_0 : w12.cell? ⟨gb378, 0, none⟩ = some (.int .u16 0) := (blk_cell BK378.out 0).trans rfl; have hcz14_1 : w12.cell? ⟨gb378, 1, none⟩ = some (.int .i64 0) := (blk_cell BK378.out 1).trans rfl; have hcz14_2 : w12.cell? ⟨gb378, 2, none⟩ = some (.int .i64 0) := (blk_cell BK378.out 2).trans rfl; have hfz14_0 := blk_frozen BK378.out 0; have hfz14_1 := blk_frozen BK378.out 1; have hfz14_2 := blk_frozen BK378.out 2) | ((with_reducible refine gate_callee (f := 44) rfl ?_); refine goesL_ (some 24) rfl rfl Tryd.func44 (by kernel_rfl) rfl #[.int .u64 (IntKind.u64.wrap ((rd_T80 l0_2 x4_1).f0)), .int .i64 2] rfl (by (try simp only [List.map_toArray, List.map_cons, List.map_nil]); first | done | rfl | (simp only [List.length_drop, List.length_take]; rfl)) ?_; (with_reducible refine (wispref03_Low.calls k1 (IntKind.u64.wrap ((rd_T80 l0_2 x4_1).f0)) 2 t379 _ A5.out).mono ?_); rintro e w15 ⟨v380, rfl, ho0, hb⟩; refine ⟨_, rfl, ?_⟩; have n0_ := Aside0.mk (Kd.R_elder' (by (with_reducible repeat (first | apply Kd.R_alloc | apply Kd.R_drewN | apply Kd.R_drew)); exact (Kd.R_mono (Kd.R_far (p := ⟨gb378, 2, none⟩) (Kd.R_far (p := ⟨gb378, 1, none⟩) (Kd.R_far (p := ⟨gb378, 0, none⟩) (Kd.R_types HO_3.out BK378.out (by decide)) (fun _ hk => hk.2) (.int .u16 ((rd_T80 l0_2 x4_1).f0))) (fun _ hk => hk.2) (.int .i64 ((rd_T80 l0_2 x4_1).f1))) (fun _ hk => hk.2) (.int .i64 ((rd_T80 l0_2 x4_1).f2))) (fun _ h_ => h_.1))) (Kd.R_base ho0) hb); have n1_ := Aside0.mk (Kd.V_elder' (by (with_reducible repeat (first | apply Kd.V_alloc | apply Kd.V_drewN | apply Kd.V_drew)); exact (Kd.V_mono (Kd.V_far (p := ⟨gb378, 2, none⟩) (Kd.V_far (p := ⟨gb378, 1, none⟩) (Kd.V_far (p := ⟨gb378, 0, none⟩) (Kd.V_mono HO_377000.out (fun k_ hk => (⟨hk, hk.2⟩ : _ ∧ k_ ≠ gb378))) (fun _ hk => hk.2) (.int .u16 ((rd_T80 l0_2 x4_1).f0))) (fun _ hk => hk.2) (.int .i64 ((rd_T80 l0_2 x4_1).f1))) (fun _ hk => hk.2) (.int .i64 ((rd_T80 l0_2 x4_1).f2))) (fun _ h_ => h_.1))) (Kd.R_base ho0) hb); have n2_ := Aside0.mk (Kd.V_elder' (by (with_reducible repeat (first | apply Kd.V_alloc | apply Kd.V_drewN | apply Kd.V_drew)); exact (Kd.V_mono (Kd.V_far (p := ⟨gb378, 2, none⟩) (Kd.V_far (p := ⟨gb378, 1, none⟩) (Kd.V_far (p := ⟨gb378, 0, none⟩) (Kd.V_mono HO_377003.out (fun k_ hk => (⟨hk, hk.2⟩ : _ ∧ k_ ≠ gb378))) (fun _ hk => hk.2) (.int .u16 ((rd_T80 l0_2 x4_1).f0))) (fun _ hk => hk.2) (.int .i64 ((rd_T80 l0_2 x4_1).f1))) (fun _ hk => hk.2) (.int .i64 ((rd_T80 l0_2 x4_1).f2))) (fun _ h_ => h_.1))) (Kd.R_base ho0) hb); have n3_ := Aside0.mk (Kd.R_lower (Kd.R_new' (Kd.R_newM (M := fun k_ => (w.heap.size ≤ k_)) ho0 (below_size (by repeat (first | (with_reducible first | exact HB.out | apply below_alloc | apply pw_below_drewN | apply below_drew1 | refine below_set ?_ GE376.out | refine below_set ?_ GE378.out) | exact HB.out))) (fun k_ h_ => h_)) (Kd.R_lt (by (with_reducible repeat (first | apply Kd.R_alloc | apply Kd.R_drewN | apply Kd.R_drew)); exact (Kd.R_mono (Kd.R_far (p := ⟨gb378, 2, none⟩) (Kd.R_far (p := ⟨gb378, 1, none⟩) (Kd.R_far (p := ⟨gb378, 0, none⟩) (Kd.R_types HO_3.out BK378.out (by decide)) (fun _ hk => hk.2) (.int .u16 ((rd_T80 l0_2 x4_1).f0))) (fun _ hk => hk.2) (.int .i64 ((rd_T80 l0_2 x4_1).f1))) (fun _ hk => hk.2) (.int .i64 ((rd_T80 l0_2 x4_1).f2))) (fun _ h_ => h_.1))))) (below_size (by repeat (first | (with_reducible first | exact HB.out | apply below_alloc | apply pw_below_drewN | apply below_drew1 | refine below_set ?_ GE376.out | refine below_set ?_ GE378.out) | exact HB.out)))); have n4_ := Aside0.mk (blk_below (g := gb376) (o := .cells #[.slice A0_0 l0_0.length c0_0, .int .u16 a0_1, .slice (some ad377) l0_2.length c0_2, .slice A0_3 l0_3.length c0_3] 28 (0, 0)) (by (with_reducible repeat (first | refine blk_drewN ?_ _ | refine blk_drew ?_ | refine blk_alloc ?_ _)); refine blk_far ?_ NB376_378.out _; (with_reducible repeat (first | refine blk_drewN ?_ _ | refine blk_drew ?_ | refine blk_alloc ?_ _)); refine blk_far ?_ NB376_378.out _; (with_reducible repeat (first | refine blk_drewN ?_ _ | refine blk_drew ?_ | refine blk_alloc ?_ _)); refine blk_far ?_ NB376_378.out _; (with_reducible repeat (first | refine blk_drewN ?_ _ | refine blk_drew ?_ | refine blk_alloc ?_ _)); exact BK376.out) hb); have n5_ := Aside0.mk (blk_below (g := gb378) (o := .cells #[.int .u16 ((rd_T80 l0_2 x4_1).f0), .int .i64 ((rd_T80 l0_2 x4_1).f1), .int .i64 ((rd_T80 l0_2 x4_1).f2)] 80 (0, 0)) (by (with_reducible repeat (first | refine blk_drewN ?_ _ | refine blk_drew ?_ | refine blk_alloc ?_ _)); refine blk_put (cs := #[.int .u16 ((rd_T80 l0_2 x4_1).f0), .int .i64 ((rd_T80 l0_2 x4_1).f1), .int .i64 0]) ?_ 2 _ rfl; (with_reducible repeat (first | refine blk_drewN ?_ _ | refine blk_drew ?_ | refine blk_alloc ?_ _)); refine blk_put (cs := #[.int .u16 ((rd_T80 l0_2 x4_1).f0), .int .i64 0, .int .i64 0]) ?_ 1 _ rfl; (with_reducible repeat (first | refine blk_drewN ?_ _ | refine blk_drew ?_ | refine blk_alloc ?_ _)); refine blk_put (cs := #[.int .u16 0, .int .i64 0, .int .i64 0]) ?_ 0 _ rfl; (with_reducible repeat (first | refine blk_drewN ?_ _ | refine blk_drew ?_ | refine blk_alloc ?_ _)); exact BK378.out) hb); have n6_ := Aside0.mk (below_step (by repeat (first | (with_reducible first | exact HB.out | apply below_alloc | apply pw_below_drewN | apply below_drew1 | refine below_set ?_ GE376.out | refine below_set ?_ GE378.out) | exact HB.out)) hb); clear HO_3; clear HO_377000; clear HO_377003; clear BK376; clear BK378; clear HB; have HO_3 := n0_; have HO_377000 := n1_; have HO_377003 := n2_; have HO381 := n3_; have BK376 := n4_; have BK378 := n5_; have HB := n6_; clear n0_ n1_ n2_ n3_ n4_ n5_ n6_; (try clear hb); (try clear hb2); (try clear hk); (try clear hi); (try clear ho0); obtain ⟨Ao17, co17, eo17⟩ := Kd.R_slice HO381.out; subst eo17) | ((with_reducible refine gate_builtin (b := .append) (xs := #[.tmp 20, .tmp 24]) rfl ?_); at_builtin; refine Kd.R_append_rows (Kd.int .u8) (w0 := w) w.heap.size rfl (.tmp 20) (.tmp 24) 22 5 (.int .u8 0) 1 rfl Tryd.underlying22 info5 rfl (by decide) (by omega) u3 x3_1 t379 _ _ _ (fun k_ => (w.heap.size ≤ k_) ∧ some k_ ≠ (.slice Ao17 t379.length co17 : Value).ownBlock) (fun _ => False) rfl rfl ?aO ?aR (fun _ _ h => h) (fun _ h => h.elim) ?aF ?aB ?aS ?aL ?_; (case aR => repeat (first | exact (Kd.R_reads' HO381.out).2.2 | (with_reducible refine Kd.C_alloc ?_ _) | (with_reducible refine Kd.C_drewN ?_ _) | (with_reducible refine Kd.C_drew ?_))); (case aB => exact (by repeat (first | (with_reducible first | exact HB.out | apply below_alloc | apply pw_below_drewN | apply below_drew1 | refine below_set ?_ GE376.out | refine below_set ?_ GE378.out) | exact HB.out))); (case aF => exact (fun k_ hk => ⟨(Nat.le_trans (below_size (by repeat (first | (with_reducible first | exact HB.out | apply below_alloc | apply pw_below_drewN | apply below_drew1 | refine below_set ?_ GE376.out | refine below_set ?_ GE378.out) | exact HB.out))) hk), Kd.fresh' (Kd.R_lt (by (with_reducible repeat (first | apply Kd.R_alloc | apply Kd.R_drewN | apply Kd.R_drew)); exact HO381.out)) k_ hk⟩)); (case aO => exact (by (with_reducible repeat (first | apply Kd.R_alloc | apply Kd.R_drewN | apply Kd.R_drew)); exact HO_3.out)); (case aS => exact (below_size (by repeat (first | (with_reducible first | exact HB.out | apply below_alloc | apply pw_below_drewN | apply below_drew1 | refine below_set ?_ GE376.out | refine below_set ?_ GE378.out) | exact HB.out)))); (case aL => have := LMc6.out; omega); intro v383 w16 ho hb hg hat; rw [← Ny382.out] at ho; have n0_ := Aside0.mk (Kd.V_afterv (ok := (fun k_ => ((P0_0_ k_ ∨ P0_3_ k_) ∨ w.heap.size ≤ k_) ∧ some k_ ≠ (.slice Ao17 t379.length co17 : Value).ownBlock ∧ k_ ≠ gb376 ∧ k_ ≠ gb378)) (by (with_reducible repeat (first | apply Kd.V_alloc | apply Kd.V_drewN | apply Kd.V_drew)); exact Kd.V_mono HO_377000.out (fun _ hk => ⟨⟨hk.1.1.1, ⟨hk.2, ⟨hk.1.1.2.2, hk.1.2⟩⟩⟩, hk.1.1.2.1⟩)) hg hat); have n1_ := Aside0.mk (Kd.V_afterv (ok := (fun k_ => ((P0_0_ k_ ∨ P0_3_ k_) ∨ w.heap.size ≤ k_) ∧ some k_ ≠ (.slice Ao17 t379.length co17 : Value).ownBlock ∧ k_ ≠ gb376 ∧ k_ ≠ gb378)) (by (with_reducible repeat (first | apply Kd.V_alloc | apply Kd.V_drewN | apply Kd.V_drew)); exact Kd.V_mono HO_377003.out (fun _ hk => ⟨⟨hk.1.1.1, ⟨hk.2, ⟨hk.1.1.2.2, hk.1.2⟩⟩⟩, hk.1.1.2.1⟩)) hg hat); have n2_ := Aside0.mk (blk_grown (g := gb376) (o := .cells #[.slice A0_0 l0_0.length c0_0, .int .u16 a0_1, .slice (some ad377) l0_2.length c0_2, .slice A0_3 l0_3.length c0_3] 28 (0, 0)) (by (with_reducible repeat (first | refine blk_drewN ?_ _ | refine blk_drew ?_ | refine blk_alloc ?_ _)); exact BK376.out) hg (Kd.R_ne HO_3.out BK376.out (by decide))); have n3_ := Aside0.mk (blk_grown (g := gb378) (o := .cells #[.int .u16 ((rd_T80 l0_2 x4_1).f0), .int .i64 ((rd_T80 l0_2 x4_1).f1), .int .i64 ((rd_T80 l0_2 x4_1).f2)] 80 (0, 0)) (by (with_reducible repeat (first | refine blk_drewN ?_ _ | refine blk_drew ?_ | refine blk_alloc ?_ _)); exact BK378.out) hg (Kd.R_ne HO_3.out BK378.out (by decide))); have n4_ := Aside0.mk (Kd.R_after (ok := (fun k_ => (w.heap.size ≤ k_))) (by (with_reducible repeat (first | apply Kd.R_alloc | apply Kd.R_drewN | apply Kd.R_drew)); exact Kd.R_mono HO381.out (fun _ hk => ⟨hk.1.1, hk.2⟩)) hg hat); have n5_ := Aside0.mk (hb); have n6_ := Aside0.mk (ho); clear HO_377000; clear HO_377003; clear BK376; clear BK378; clear HO381; clear HB; clear HO_3; have HO_377000 := n0_; have HO_377003 := n1_; have BK376 := n2_; have BK378 := n3_; have HO381 := n4_; have HB := n5_; have HO384 := n6_; clear n0_ n1_ n2_ n3_ n4_ n5_ n6_; clear ho hb hg hat; have hcz18_0 : w16.cell? ⟨gb378, 0, none⟩ = some (.int .u16 ((rd_T80 l0_2 x4_1).f0)) := (blk_cell BK378.out 0).trans rfl; have hcz18_1 : w16.cell? ⟨gb378, 1, none⟩ = some (.int .i64 ((rd_T80 l0_2 x4_1).f1)) := (blk_cell BK378.out 1).trans rfl; have hcz18_2 : w16.cell? ⟨gb378, 2, none⟩ = some (.int .i64 ((rd_T80 l0_2 x4_1).f2)) := (blk_cell BK378.out 2).trans rfl; have hfz18_0 := blk_frozen BK378.out 0; have hfz18_1 := blk_frozen BK378.out 1; have hfz18_2 := blk_frozen BK378.out 2) | ((with_reducible refine gate_callee (f := 44) rfl ?_); refine goesL_ (some 30) rfl rfl Tryd.func44 (by kernel_rfl) rfl #[.int .u64 (IntKind.u64.wrap ((rd_T80 l0_2 x4_1).f1)), .int .i64 2] rfl (by (try simp only [List.map_toArray, List.map_cons, List.map_nil]); first | done | rfl | (simp only [List.length_drop, List.length_take]; rfl)) ?_; (with_reducible refine (wispref03_Low.calls k1 (IntKind.u64.wrap ((rd_T80 l0_2 x4_1).f1)) 2 t385 _ A7.out).mono ?_); rintro e w19 ⟨v386, rfl, ho0, hb⟩; refine ⟨_, rfl, ?_⟩; have n0_ := Aside0.mk (Kd.V_elder' (by (with_reducible repeat (first | apply Kd.V_alloc | apply Kd.V_drewN | apply Kd.V_drew)); exact HO_377000.out) (Kd.R_base ho0) hb); have n1_ := Aside0.mk (Kd.V_elder' (by (with_reducible repeat (first | apply Kd.V_alloc | apply Kd.V_drewN | apply Kd.V_drew)); exact HO_377003.out) (Kd.R_base ho0) hb); have n2_ := Aside0.mk (Kd.R_elder' (by (with_reducible repeat (first | apply Kd.R_alloc | apply Kd.R_drewN | apply Kd.R_drew)); exact HO381.out) (Kd.R_base ho0) hb); have n3_ := Aside0.mk (Kd.R_elder' (by (with_reducible repeat (first | apply Kd.R_alloc | apply Kd.R_drewN | apply Kd.R_drew)); exact HO384.out) (Kd.R_base ho0) hb); have n4_ := Aside0.mk (Kd.R_lower (Kd.R_new' (Kd.R_new' (Kd.R_newM (M := fun k_ => (w.heap.size ≤ k_)) ho0 (below_size (by repeat (first | (with_reducible first | exact HB.out | apply below_alloc | apply pw_below_drewN | apply below_drew1 | refine below_set ?_ GE376.out | refine below_set ?_ GE378.out) | exact HB.out))) (fun k_ h_ => h_)) (Kd.R_lt (by (with_reducible repeat (first | apply Kd.R_alloc | apply Kd.R_drewN | apply Kd.R_drew)); exact HO381.out))) (Kd.R_lt (by (with_reducible repeat (first | apply Kd.R_alloc | apply Kd.R_drewN | apply Kd.R_drew)); exact HO384.out))) (below_size (by repeat (first | (with_reducible first | exact HB.out | apply below_alloc | apply pw_below_drewN | apply below_drew1 | refine below_set ?_ GE376.out | refine below_set ?_ GE378.out) | exact HB.out)))); have n5_ := Aside0.mk (blk_below (g := gb376) (o := .cells #[.slice A0_0 l0_0.length c0_0, .int .u16 a0_1, .slice (some ad377) l0_2.length c0_2, .slice A0_3 l0_3.length c0_3] 28 (0, 0)) (by (with_reducible repeat (first | refine blk_drewN ?_ _ | refine blk_drew ?_ | refine blk_alloc ?_ _)); exact BK376.out) hb); have n6_ := Aside0.mk (blk_below (g := gb378) (o := .cells #[.int .u16 ((rd_T80 l0_2 x4_1).f0), .int .i64 ((rd_T80 l0_2 x4_1).f1), .int .i64 ((rd_T80 l0_2 x4_1).f2)] 80 (0, 0)) (by (with_reducible repeat (first | refine blk_drewN ?_ _ | refine blk_drew ?_ | refine blk_alloc ?_ _)); exact BK378.out) hb); have n7_ := Aside0.mk (below_step (by repeat (first | (with_reducible first | exact HB.out | apply below_alloc | apply pw_below_drewN | apply below_drew1 | refine below_set ?_ GE376.out | refine below_set ?_ GE378.out) | exact HB.out)) hb); clear HO_377000; clear HO_377003; clear HO381; clear HO384; clear BK376; clear BK378; clear HB; have HO_377000 := n0_; have HO_377003 := n1_; have HO381 := n2_; have HO384 := n3_; have HO387 := n4_; have BK376 := n5_; have BK378 := n6_; have HB := n7_; clear n0_ n1_ n2_ n3_ n4_ n5_ n6_ n7_; (try clear hb); (try clear hb2); (try clear hk); (try clear hi); (try clear ho0); obtain ⟨Ao21, co21, eo21⟩ := Kd.R_slice HO387.out; subst eo21) | ((with_reducible refine gate_builtin (b := .append) (xs := #[.tmp 26, .tmp 30]) rfl ?_); at_builtin; refine Kd.R_append_rows (Kd.int .u8) (w0 := w) w.heap.size rfl (.tmp 26) (.tmp 30) 22 5 (.int .u8 0) 1 rfl Tryd.underlying22 info5 rfl (by decide) (by omega) v383 y382 t385 _ _ _ (fun k_ => (w.heap.size ≤ k_) ∧ some k_ ≠ (.slice Ao17 t379.length co17 : Value).ownBlock ∧ some k_ ≠ (.slice Ao21 t385.length co21 : Value).ownBlock) (fun _ => False) rfl rfl ?aO ?aR (fun _ _ h => h) (fun _ h => h.elim) ?aF ?aB ?aS ?aL ?_; (case aR => repeat (first | exact (Kd.R_reads' HO387.out).2.2 | (with_reducible refine Kd.C_alloc ?_ _) | (with_reducible refine Kd.C_drewN ?_ _) | (with_reducible refine Kd.C_drew ?_))); (case aB => exact (by repeat (first | (with_reducible first | exact HB.out | apply below_alloc | apply pw_below_drewN | apply below_drew1 | refine below_set ?_ GE376.out | refine below_set ?_ GE378.out) | exact HB.out))); (case aF => exact (fun k_ hk => ⟨(Nat.le_trans (below_size (by repeat (first | (with_reducible first | exact HB.out | apply below_alloc | apply pw_below_drewN | apply below_drew1 | refine below_set ?_ GE376.out | refine below_set ?_ GE378.out) | exact HB.out))) hk), Kd.fresh' (Kd.R_lt (by (with_reducible repeat (first | apply Kd.R_alloc | apply Kd.R_drewN | apply Kd.R_drew)); exact HO381.out)) k_ hk, Kd.fresh' (Kd.R_lt (by (with_reducible repeat (first | apply Kd.R_alloc | apply Kd.R_drewN | apply Kd.R_drew)); exact HO387.out)) k_ hk⟩)); (case aO => exact (by (with_reducible repeat (first | apply Kd.R_alloc | apply Kd.R_drewN | apply Kd.R_drew)); exact Kd.R_mono HO384.out (fun _ hk => ⟨hk.1.1, ⟨hk.1.2, hk.2⟩⟩))); (case aS => exact (below_size (by repeat (first | (with_reducible first | exact HB.out | apply below_alloc | apply pw_below_drewN | apply below_drew1 | refine below_set ?_ GE376.out | refine below_set ?_ GE378.out) | exact HB.out)))); (case aL => have := LMc8.out; omega); intro v389 w20 ho hb hg hat; rw [← Ny388.out] at ho; have n0_ := Aside0.mk (Kd.V_afterv (ok := (fun k_ => ((P0_0_ k_ ∨ P0_3_ k_) ∨ w.heap.size ≤ k_) ∧ some k_ ≠ (.slice Ao17 t379.length co17 : Value).ownBlock ∧ some k_ ≠ (.slice Ao21 t385.length co21 : Value).ownBlock ∧ k_ ≠ gb376 ∧ k_ ≠ gb378)) (by (with_reducible repeat (first | apply Kd.V_alloc | apply Kd.V_drewN | apply Kd.V_drew)); exact Kd.V_mono HO_377000.out (fun _ hk => ⟨⟨hk.1.1.1, ⟨hk.1.1.2.1, ⟨hk.2, ⟨hk.1.1.2.2.1, hk.1.1.2.2.2⟩⟩⟩⟩, hk.1.2⟩)) hg hat); have n1_ := Aside0.mk (Kd.V_afterv (ok := (fun k_ => ((P0_0_ k_ ∨ P0_3_ k_) ∨ w.heap.size ≤ k_) ∧ some k_ ≠ (.slice Ao17 t379.length co17 : Value).ownBlock ∧ some k_ ≠ (.slice Ao21 t385.length co21 : Value).ownBlock ∧ k_ ≠ gb376 ∧ k_ ≠ gb378)) (by (with_reducible repeat (first | apply Kd.V_alloc | apply Kd.V_drewN | apply Kd.V_drew)); exact Kd.V_mono HO_377003.out (fun _ hk => ⟨⟨hk.1.1.1, ⟨hk.1.1.2.1, ⟨hk.2, ⟨hk.1.1.2.2.1, hk.1.1.2.2.2⟩⟩⟩⟩, hk.1.2⟩)) hg hat); have n2_ := Aside0.mk (blk_grown (g := gb376) (o := .cells #[.slice A0_0 l0_0.length c0_0, .int .u16 a0_1, .slice (some ad377) l0_2.length c0_2, .slice A0_3 l0_3.length c0_3] 28 (0, 0)) (by (with_reducible repeat (first | refine blk_drewN ?_ _ | refine blk_drew ?_ | refine blk_alloc ?_ _)); exact BK376.out) hg (Kd.R_ne HO384.out BK376.out (by decide))); have n3_ := Aside0.mk (blk_grown (g := gb378) (o := .cells #[.int .u16 ((rd_T80 l0_2 x4_1).f0), .int .i64 ((rd_T80 l0_2 x4_1).f1), .int .i64 ((rd_T80 l0_2 x4_1).f2)] 80 (0, 0)) (by (with_reducible repeat (first | refine blk_drewN ?_ _ | refine blk_drew ?_ | refine blk_alloc ?_ _)); exact BK378.out) hg (Kd.R_ne HO384.out BK378.out (by decide))); have n4_ := Aside0.mk (Kd.R_after (ok := (fun k_ => (w.heap.size ≤ k_) ∧ some k_ ≠ (.slice Ao21 t385.length co21 : Value).ownBlock)) (by (with_reducible repeat (first | apply Kd.R_alloc | apply Kd.R_drewN | apply Kd.R_drew)); exact Kd.R_mono HO381.out (fun _ hk => ⟨⟨hk.1.1, hk.2⟩, hk.1.2⟩)) hg hat); have n5_ := Aside0.mk (Kd.R_after (ok := (fun k_ => (w.heap.size ≤ k_) ∧ some k_ ≠ (.slice Ao17 t379.length co17 : Value).ownBlock)) (by (with_reducible repeat (first | apply Kd.R_alloc | apply Kd.R_drewN | apply Kd.R_drew)); exact Kd.R_mono HO387.out (fun _ hk => ⟨⟨hk.1.1.1, hk.1.2⟩, hk.2⟩)) hg hat); have n6_ := Aside0.mk (hb); have n7_ := Aside0.mk (ho); clear HO_377000; clear HO_377003; clear BK376; clear BK378; clear HO381; clear HO387; clear HB; clear HO384; have HO_377000 := n0_; have HO_377003 := n1_; have BK376 := n2_; have BK378 := n3_; have HO381 := n4_; have HO387 := n5_; have HB := n6_; have HO390 := n7_; clear n0_ n1_ n2_ n3_ n4_ n5_ n6_ n7_; clear ho hb hg hat; have hcz22_0 : w20.cell? ⟨gb378, 0, none⟩ = some (.int .u16 ((rd_T80 l0_2 x4_1).f0)) := (blk_cell BK378.out 0).trans rfl; have hcz22_1 : w20.cell? ⟨gb378, 1, none⟩ = some (.int .i64 ((rd_T80 l0_2 x4_1).f1)) := (blk_cell BK378.out 1).trans rfl; have hcz22_2 : w20.cell? ⟨gb378, 2, none⟩ = some (.int .i64 ((rd_T80 l0_2 x4_1).f2)) := (blk_cell BK378.out 2).trans rfl; have hfz22_0 := blk_frozen BK378.out 0; have hfz22_1 := blk_frozen BK378.out 1; have hfz22_2 := blk_frozen BK378.out 2) | ((with_reducible refine gate_callee (f := 44) rfl ?_); refine goesL_ (some 36) rfl rfl Tryd.func44 (by kernel_rfl) rfl #[.int .u64 (IntKind.u64.wrap ((rd_T80 l0_2 x4_1).f2)), .int .i64 2] rfl (by (try simp only [List.map_toArray, List.map_cons, List.map_nil]); first | done | rfl | (simp only [List.length_drop, List.length_take]; rfl)) ?_; (with_reducible refine (wispref03_Low.calls k1 (IntKind.u64.wrap ((rd_T80 l0_2 x4_1).f2)) 2 t391 _ A9.out).mono ?_); rintro e w23 ⟨v392, rfl, ho0, hb⟩; refine ⟨_, rfl, ?_⟩; have n0_ := Aside0.mk (Kd.V_elder' (by (with_reducible repeat (first | apply Kd.V_alloc | apply Kd.V_drewN | apply Kd.V_drew)); exact HO_377000.out) (Kd.R_base ho0) hb); have n1_ := Aside0.mk (Kd.V_elder' (by (with_reducible repeat (first | apply Kd.V_alloc | apply Kd.V_drewN | apply Kd.V_drew)); exact HO_377003.out) (Kd.R_base ho0) hb); have n2_ := Aside0.mk (Kd.R_elder' (by (with_reducible repeat (first | apply Kd.R_alloc | apply Kd.R_drewN | apply Kd.R_drew)); exact HO381.out) (Kd.R_base ho0) hb); have n3_ := Aside0.mk (Kd.R_elder' (by (with_reducible repeat (first | apply Kd.R_alloc | apply Kd.R_drewN | apply Kd.R_drew)); exact HO387.out) (Kd.R_base ho0) hb); have n4_ := Aside0.mk (Kd.R_elder' (by (with_reducible repeat (first | apply Kd.R_alloc | apply Kd.R_drewN | apply Kd.R_drew)); exact HO390.out) (Kd.R_base ho0) hb); have n5_ := Aside0.mk (Kd.R_lower (Kd.R_new' (Kd.R_new' (Kd.R_new' (Kd.R_newM (M := fun k_ => (w.heap.size ≤ k_)) ho0 (below_size (by repeat (first | (with_reducible first | exact HB.out | apply below_alloc | apply pw_below_drewN | apply below_drew1 | refine below_set ?_ GE376.out | refine below_set ?_ GE378.out) | exact HB.out))) (fun k_ h_ => h_)) (Kd.R_lt (by (with_reducible repeat (first | apply Kd.R_alloc | apply Kd.R_drewN | apply Kd.R_drew)); exact HO381.out))) (Kd.R_lt (by (with_reducible repeat (first | apply Kd.R_alloc | apply Kd.R_drewN | apply Kd.R_drew)); exact HO387.out))) (Kd.R_lt (by (with_reducible repeat (first | apply Kd.R_alloc | apply Kd.R_drewN | apply Kd.R_drew)); exact HO390.out))) (below_size (by repeat (first | (with_reducible first | exact HB.out | apply below_alloc | apply pw_below_drewN | apply below_drew1 | refine below_set ?_ GE376.out | refine below_set ?_ GE378.out) | exact HB.out)))); have n6_ := Aside0.mk (blk_below (g := gb376) (o := .cells #[.slice A0_0 l0_0.length c0_0, .int .u16 a0_1, .slice (some ad377) l0_2.length c0_2, .slice A0_3 l0_3.length c0_3] 28 (0, 0)) (by (with_reducible repeat (first | refine blk_drewN ?_ _ | refine blk_drew ?_ | refine blk_alloc ?_ _)); exact BK376.out) hb); have n7_ := Aside0.mk (blk_below (g := gb378) (o := .cells #[.int .u16 ((rd_T80 l0_2 x4_1).f0), .int .i64 ((rd_T80 l0_2 x4_1).f1), .int .i64 ((rd_T80 l0_2 x4_1).f2)] 80 (0, 0)) (by (with_reducible repeat (first | refine blk_drewN ?_ _ | refine blk_drew ?_ | refine blk_alloc ?_ _)); exact BK378.out) hb); have n8_ := Aside0.mk (below_step (by repeat (first | (with_reducible first | exact HB.out | apply below_alloc | apply pw_below_drewN | apply below_drew1 | refine below_set ?_ GE376.out | refine below_set ?_ GE378.out) | exact HB.out)) hb); clear HO_377000; clear HO_377003; clear HO381; clear HO387; clear HO390; clear BK376; clear BK378; clear HB; have HO_377000 := n0_; have HO_377003 := n1_; have HO381 := n2_; have HO387 := n3_; have HO390 := n4_; have HO393 := n5_; have BK376 := n6_; have BK378 := n7_; have HB := n8_; clear n0_ n1_ n2_ n3_ n4_ n5_ n6_ n7_ n8_; (try clear hb); (try clear hb2); (try clear hk); (try clear hi); (try clear ho0); obtain ⟨Ao25, co25, eo25⟩ := Kd.R_slice HO393.out; subst eo25) | ((with_reducible refine gate_builtin (b := .append) (xs := #[.tmp 32, .tmp 36]) rfl ?_); at_builtin; refine Kd.R_append_rows (Kd.int .u8) (w0 := w) w.heap.size rfl (.tmp 32) (.tmp 36) 22 5 (.int .u8 0) 1 rfl Tryd.underlying22 info5 rfl (by decide) (by omega) v389 y388 t391 _ _ _ (fun k_ => (w.heap.size ≤ k_) ∧ some k_ ≠ (.slice Ao17 t379.length co17 : Value).ownBlock ∧ some k_ ≠ (.slice Ao21 t385.length co21 : Value).ownBlock ∧ some k_ ≠ (.slice Ao25 t391.length co25 : Value).ownBlock) (fun _ => False) rfl rfl ?aO ?aR (fun _ _ h => h) (fun _ h => h.elim) ?aF ?aB ?aS ?aL ?_; (case aR => repeat (first | exact (Kd.R_reads' HO393.out).2.2 | (with_reducible refine Kd.C_alloc ?_ _) | (with_reducible refine Kd.C_drewN ?_ _) | (with_reducible refine Kd.C_drew ?_))); (case aB => exact (by repeat (first | (with_reducible first | exact HB.out | apply below_alloc | apply pw_below_drewN | apply below_drew1 | refine below_set ?_ GE376.out | refine below_set ?_ GE378.out) | exact HB.out))); (case aF => exact (fun k_ hk => ⟨(Nat.le_trans (below_size (by repeat (first | (with_reducible first | exact HB.out | apply below_alloc | apply pw_below_drewN | apply below_drew1 | refine below_set ?_ GE376.out | refine below_set ?_ GE378.out) | exact HB.out))) hk), Kd.fresh' (Kd.R_lt (by (with_reducible repeat (first | apply Kd.R_alloc | apply Kd.R_drewN | apply Kd.R_drew)); exact HO381.out)) k_ hk, Kd.fresh' (Kd.R_lt (by (with_reducible repeat (first | apply Kd.R_alloc | apply Kd.R_drewN | apply Kd.R_drew)); exact HO387.out)) k_ hk, Kd.fresh' (Kd.R_lt (by (with_reducible repeat (first | apply Kd.R_alloc | apply Kd.R_drewN | apply Kd.R_drew)); exact HO393.out)) k_ hk⟩)); (case aO => exact (by (with_reducible repeat (first | apply Kd.R_alloc | apply Kd.R_drewN | apply Kd.R_drew)); exact Kd.R_mono HO390.out (fun _ hk => ⟨hk.1.1, ⟨hk.1.2.1, ⟨hk.1.2.2, hk.2⟩⟩⟩))); (case aS => exact (below_size (by repeat (first | (with_reducible first | exact HB.out | apply below_alloc | apply pw_below_drewN | apply below_drew1 | refine below_set ?_ GE376.out | refine below_set ?_ GE378.out) | exact HB.out)))); (case aL => have := LMc10.out; omega); intro v395 w24 ho hb hg hat; rw [← Ny394.out] at ho; have n0_ := Aside0.mk (Kd.V_afterv (ok := (fun k_ => ((P0_0_ k_ ∨ P0_3_ k_) ∨ w.heap.size ≤ k_) ∧ some k_ ≠ (.slice Ao17 t379.length co17 : Value).ownBlock ∧ some k_ ≠ (.slice Ao21 t385.length co21 : Value).ownBlock ∧ some k_ ≠ (.slice Ao25 t391.length co25 : Value).ownBlock ∧ k_ ≠ gb376 ∧ k_ ≠ gb378)) (by (with_reducible repeat (first | apply Kd.V_alloc | apply Kd.V_drewN | apply Kd.V_drew)); exact Kd.V_mono HO_377000.out (fun _ hk => ⟨⟨hk.1.1.1, ⟨hk.1.1.2.1, ⟨hk.1.1.2.2.1, ⟨hk.2, ⟨hk.1.1.2.2.2.1, hk.1.1.2.2.2.2⟩⟩⟩⟩⟩, hk.1.2⟩)) hg hat); have n1_ := Aside0.mk (Kd.V_afterv (ok := (fun k_ => ((P0_0_ k_ ∨ P0_3_ k_) ∨ w.heap.size ≤ k_) ∧ some k_ ≠ (.slice Ao17 t379.length co17 : Value).ownBlock ∧ some k_ ≠ (.slice Ao21 t385.length co21 : Value).ownBlock ∧ some k_ ≠ (.slice Ao25 t391.length co25 : Value).ownBlock ∧ k_ ≠ gb376 ∧ k_ ≠ gb378)) (by (with_reducible repeat (first | apply Kd.V_alloc | apply Kd.V_drewN | apply Kd.V_drew)); exact Kd.V_mono HO_377003.out (fun _ hk => ⟨⟨hk.1.1.1, ⟨hk.1.1.2.1, ⟨hk.1.1.2.2.1, ⟨hk.2, ⟨hk.1.1.2.2.2.1, hk.1.1.2.2.2.2⟩⟩⟩⟩⟩, hk.1.2⟩)) hg hat); have n2_ := Aside0.mk (blk_grown (g := gb376) (o := .cells #[.slice A0_0 l0_0.length c0_0, .int .u16 a0_1, .slice (some ad377) l0_2.length c0_2, .slice A0_3 l0_3.length c0_3] 28 (0, 0)) (by (with_reducible repeat (first | refine blk_drewN ?_ _ | refine blk_drew ?_ | refine blk_alloc ?_ _)); exact BK376.out) hg (Kd.R_ne HO390.out BK376.out (by decide))); have n3_ := Aside0.mk (blk_grown (g := gb378) (o := .cells #[.int .u16 ((rd_T80 l0_2 x4_1).f0), .int .i64 ((rd_T80 l0_2 x4_1).f1), .int .i64 ((rd_T80 l0_2 x4_1).f2)] 80 (0, 0)) (by (with_reducible repeat (first | refine blk_drewN ?_ _ | refine blk_drew ?_ | refine blk_alloc ?_ _)); exact BK378.out) hg (Kd.R_ne HO390.out BK378.out (by decide))); have n4_ := Aside0.mk (Kd.R_after (ok := (fun k_ => (w.heap.size ≤ k_) ∧ some k_ ≠ (.slice Ao21 t385.length co21 : Value).ownBlock ∧ some k_ ≠ (.slice Ao25 t391.length co25 : Value).ownBlock)) (by (with_reducible repeat (first | apply Kd.R_alloc | apply Kd.R_drewN | apply Kd.R_drew)); exact Kd.R_mono HO381.out (fun _ hk => ⟨⟨hk.1.1.1, ⟨hk.1.1.2, hk.2⟩⟩, hk.1.2⟩)) hg hat); have n5_ := Aside0.mk (Kd.R_after (ok := (fun k_ => (w.heap.size ≤ k_) ∧ some k_ ≠ (.slice Ao17 t379.length co17 : Value).ownBlock ∧ some k_ ≠ (.slice Ao25 t391.length co25 : Value).ownBlock)) (by (with_reducible repeat (first | apply Kd.R_alloc | apply Kd.R_drewN | apply Kd.R_drew)); exact Kd.R_mono HO387.out (fun _ hk => ⟨⟨hk.1.1.1, ⟨hk.1.1.2, hk.2⟩⟩, hk.1.2⟩)) hg hat); have n6_ := Aside0.mk (Kd.R_after (ok := (fun k_ => (w.heap.size ≤ k_) ∧ some k_ ≠ (.slice Ao17 t379.length co17 : Value).ownBlock ∧ some k_ ≠ (.slice Ao21 t385.length co21 : Value).ownBlock)) (by (with_reducible repeat (first | apply Kd.R_alloc | apply Kd.R_drewN | apply Kd.R_drew)); exact Kd.R_mono HO393.out (fun _ hk => ⟨⟨hk.1.1.1.1, ⟨hk.1.1.2, hk.1.2⟩⟩, hk.2⟩)) hg hat); have n7_ := Aside0.mk (hb); have n8_ := Aside0.mk (ho); clear HO_377000; clear HO_377003; clear BK376; clear BK378; clear HO381; clear HO387; clear HO393; clear HB; clear HO390; have HO_377000 := n0_; have HO_377003 := n1_; have BK376 := n2_; have BK378 := n3_; have HO381 := n4_; have HO387 := n5_; have HO393 := n6_; have HB := n7_; have HO396 := n8_; clear n0_ n1_ n2_ n3_ n4_ n5_ n6_ n7_ n8_; clear ho hb hg hat))
                go_roundg k1
                case measure => have := HK1.out; omega
                case rel => exact ⟨(y394), (wrap64 (x4_1 + 1)), (by first | rfl | (simp; done) | (simp [*]; done) | (simp [isEmpty_ne]; done)), H', ⟨by have := HK1.out; omega⟩, ⟨by (with_reducible repeat (first | apply Kd.R_alloc | apply Kd.R_drewN | apply Kd.R_drew)); exact Kd.R_mono HO396.out (fun _ hk => hk.1)⟩, ⟨by (with_reducible repeat (first | apply Kd.V_alloc | apply Kd.V_drewN | apply Kd.V_drew)); exact Kd.V_mono HO_377000.out (fun _ hk => ⟨hk.1.1, ⟨hk.2, hk.1.2.2.2.2.1⟩⟩)⟩, ⟨by (with_reducible repeat (first | apply Kd.V_alloc | apply Kd.V_drewN | apply Kd.V_drew)); exact Kd.V_mono HO_377003.out (fun _ hk => ⟨hk.1.1, ⟨hk.2, hk.1.2.2.2.2.1⟩⟩)⟩, ⟨by (with_reducible repeat (first | refine blk_drewN ?_ _ | refine blk_drew ?_ | refine blk_alloc ?_ _)); exact BK376.out⟩, ⟨by repeat (first | (with_reducible first | exact HB.out | apply below_alloc | apply pw_below_drewN | apply below_drew1 | refine below_set ?_ GE376.out | refine below_set ?_ GE378.out) | exact HB.out)⟩⟩
              · rw [if_neg c10] at H
                exact absurd H (by simp)
            · rw [if_neg c8] at H
              exact absurd H (by simp)
          · rw [if_neg c6] at H
            exact absurd H (by simp)
        · rw [if_neg c4] at H
          exact absurd H (by simp)
      · rw [if_neg c3] at H
        have c3b0 : decide (x4_1 < (l0_2.length : Int)) = false := decide_eq_false c3
        clear c3
        obtain ⟨y397, hy397⟩ : ∃ y_ : List (S77), y_ = (([(⟨1, 0, l0_0⟩ : S77), (⟨2, 0, x3_1⟩ : S77)] : List (S77))) := ⟨_, rfl⟩
        replace H : (wispref07_sections.l1 k1 y397 0 l0_0 a0_1 l0_2 l0_3) = some r := by first | (rw [hy397]; with_reducible exact H) | (have H2_ := (Option.bind_some _ _).symm.trans H; rw [hy397]; with_reducible exact H2_) | (have H2_ := (Option.bind_some _ _).symm.trans H; with_reducible exact H2_) | with_reducible exact H | (rw [hy397]; exact H) | exact H
        have Ny397 := Aside0.mk hy397
        clear hy397
        have H' := Aside0.mk H
        clear H
        have hcz26_0 : wr.cell? ⟨gb376, 0, none⟩ = some (.slice A0_0 l0_0.length c0_0) := (blk_cell BK376.out 0).trans rfl
        have hcz26_1 : wr.cell? ⟨gb376, 1, none⟩ = some (.int .u16 a0_1) := (blk_cell BK376.out 1).trans rfl
        have hcz26_2 : wr.cell? ⟨gb376, 2, none⟩ = some (.slice A0_2 l0_2.length c0_2) := (blk_cell BK376.out 2).trans rfl
        have hcz26_3 : wr.cell? ⟨gb376, 3, none⟩ = some (.slice A0_3 l0_3.length c0_3) := (blk_cell BK376.out 3).trans rfl
        have hfz26_0 := blk_frozen BK376.out 0
        have hfz26_1 := blk_frozen BK376.out 1
        have hfz26_2 := blk_frozen BK376.out 2
        have hfz26_3 := blk_frozen BK376.out 3
        obtain ⟨Ao27, co27, eo27⟩ := Kd.R_slice HO_3.out
        subst eo27
        go_wp2_with (first | ((with_reducible refine gate_dst (N := 43) rfl ?_); refine Kd.N_lit k77 _ 77 ?hg (N' := 43) ?hd (xs := ([(⟨1, 0, l0_0⟩ : S77), (⟨2, 0, x3_1⟩ : S77)] : List (S77))) (inner := [.int .u8 1, .int .u8 0, .slice A0_0 l0_0.length c0_0, .int .u8 2, .int .u8 0, .slice Ao27 x3_1.length co27]) (ok := (fun k_ => ((P0_0_ k_ ∨ P0_3_ k_) ∨ w.heap.size ≤ k_) ∧ k_ ≠ gb376)) (okp := (fun k_ => ((P0_0_ k_ ∨ P0_3_ k_) ∨ w.heap.size ≤ k_) ∧ k_ ≠ gb376)) ?hr ?hp (fun _ hk => hk) ((show ∀ k_, wr.heap.size ≤ k_ → (fun k_ => ((P0_0_ k_ ∨ P0_3_ k_) ∨ w.heap.size ≤ k_) ∧ k_ ≠ gb376) k_ from fun k_ hk => ⟨(.inr (Nat.le_trans (below_size (by repeat (first | (with_reducible first | exact HB.out | apply below_alloc | apply pw_below_drewN | apply below_drew1 | refine below_set ?_ GE376.out) | exact HB.out))) hk)), Kd.freshB (g := gb376) (o := .cells #[.slice A0_0 l0_0.length c0_0, .int .u16 a0_1, .slice A0_2 l0_2.length c0_2, .slice A0_3 l0_3.length c0_3] 28 (0, 0)) (by (with_reducible repeat (first | refine blk_drewN ?_ _ | refine blk_drew ?_ | refine blk_alloc ?_ _)); exact BK376.out) k_ hk⟩) _ (Nat.le_refl _)) (Below.refl _ _) (Nat.le_refl _) (by simp) ?_; (case hd => rfl); (case hg => rfl); (case hr => first | (go_simp; done) | (go_simp; rfl)); (case hp => exact (Reps.c3 (show Kd.FK k77 _ _ (⟨1, 0, l0_0⟩ : S77) [.int .u8 1, .int .u8 0, .slice A0_0 l0_0.length c0_0] from (k77_mkF _ _ (⟨1, 0, l0_0⟩ : S77) (Kd.V_reads' (Kd.V_mono (ok' := (fun k_ => ((P0_0_ k_ ∨ P0_3_ k_) ∨ w.heap.size ≤ k_) ∧ k_ ≠ gb376)) (HO_377000.out) (fun k_ hk => ⟨hk.1, hk.2.2⟩))).2.1 (Kd.V_F (Kd.V_mono (ok' := (fun k_ => ((P0_0_ k_ ∨ P0_3_ k_) ∨ w.heap.size ≤ k_) ∧ k_ ≠ gb376)) (HO_377000.out) (fun k_ hk => ⟨hk.1, hk.2.2⟩))))) (Reps.c3 (show Kd.FK k77 _ _ (⟨2, 0, x3_1⟩ : S77) [.int .u8 2, .int .u8 0, .slice Ao27 x3_1.length co27] from (k77_mkF _ _ (⟨2, 0, x3_1⟩ : S77) (Kd.R_reads' (Kd.R_mono (ok' := (fun k_ => ((P0_0_ k_ ∨ P0_3_ k_) ∨ w.heap.size ≤ k_) ∧ k_ ≠ gb376)) (Kd.R_types (HO_3.out) BK376.out (by decide)) (fun k_ hk => ⟨(.inr (hk.1)), hk.2⟩))).2.1 (Kd.R_F (Kd.R_mono (ok' := (fun k_ => ((P0_0_ k_ ∨ P0_3_ k_) ∨ w.heap.size ≤ k_) ∧ k_ ≠ gb376)) (Kd.R_types (HO_3.out) BK376.out (by decide)) (fun k_ hk => ⟨(.inr (hk.1)), hk.2⟩))))) (Reps.none _ _)))); intro v398 w28 ho29 hb hg_ hnew_; clear hg_ hnew_; (first | rw [← Ny397.out] at ho29 | (simp only [Int.reduceToNat] at ho29; rw [← Ny397.out] at ho29)); have n0_ := Aside0.mk (Kd.V_elder' (by (with_reducible repeat (first | apply Kd.V_alloc | apply Kd.V_drewN | apply Kd.V_drew)); exact HO_377000.out) (Kd.N_base ho29) hb); have n1_ := Aside0.mk (Kd.V_elder' (by (with_reducible repeat (first | apply Kd.V_alloc | apply Kd.V_drewN | apply Kd.V_drew)); exact HO_377003.out) (Kd.N_base ho29) hb); have n2_ := Aside0.mk (Kd.N_lower ho29 (below_size (by repeat (first | (with_reducible first | exact HB.out | apply below_alloc | apply pw_below_drewN | apply below_drew1 | refine below_set ?_ GE376.out) | exact HB.out)))); have n3_ := Aside0.mk (blk_below (g := gb376) (o := .cells #[.slice A0_0 l0_0.length c0_0, .int .u16 a0_1, .slice A0_2 l0_2.length c0_2, .slice A0_3 l0_3.length c0_3] 28 (0, 0)) (by (with_reducible repeat (first | refine blk_drewN ?_ _ | refine blk_drew ?_ | refine blk_alloc ?_ _)); exact BK376.out) hb); have n4_ := Aside0.mk (below_step (by repeat (first | (with_reducible first | exact HB.out | apply below_alloc | apply pw_below_drewN | apply below_drew1 | refine below_set ?_ GE376.out) | exact HB.out)) hb); clear HO_377000; clear HO_377003; clear BK376; clear HB; clear HO_3; have HO_377000 := n0_; have HO_377003 := n1_; have HO399 := n2_; have BK376 := n3_; have HB := n4_; clear n0_ n1_ n2_ n3_ n4_; clear hb ho29))
        go_loopg [6, 7] k1 (fun kq v6 v7 w' => ∃ (x6_2 : List (S77)) (x7_2 : Int), v7 = .int .i64 x7_2 ∧ Aside0 (wispref07_sections.l1 kq x6_2 x7_2 l0_0 a0_1 l0_2 l0_3 = some r) ∧ Aside0 (kq ≤ k1) ∧ Aside0 (Kd.N k77 77 w' w.heap.size (fun k_ => ((P0_0_ k_ ∨ P0_3_ k_) ∨ w.heap.size ≤ k_) ∧ k_ ≠ gb376) v6 x6_2) ∧ Aside0 (Kd.V (Kd.int .u8) 5 w' w.heap.size (fun k_ => ((P0_0_ k_ ∨ P0_3_ k_) ∨ w.heap.size ≤ k_) ∧ some k_ ≠ (v6 : Value).ownBlock ∧ k_ ≠ gb376) (.slice A0_0 l0_0.length c0_0) l0_0) ∧ Aside0 (Kd.V k82 82 w' w.heap.size (fun k_ => ((P0_0_ k_ ∨ P0_3_ k_) ∨ w.heap.size ≤ k_) ∧ some k_ ≠ (v6 : Value).ownBlock ∧ k_ ≠ gb376) (.slice A0_3 l0_3.length c0_3) l0_3) ∧ Aside0 (w'.heap[gb376]? = some (.cells #[(.slice A0_0 l0_0.length c0_0), .int .u16 a0_1, (.slice A0_2 l0_2.length c0_2), (.slice A0_3 l0_3.length c0_3)] 28 (0, 0))) ∧ Aside0 (Below w.heap.size w w'))
        case atStart => exact ⟨(y397), (0), (by first | rfl | (simp; done) | (simp [*]; done) | (simp [isEmpty_ne]; done)), H', ⟨Nat.le_refl _⟩, ⟨by (with_reducible repeat (first | apply Kd.N_alloc | apply Kd.N_drewN | apply Kd.N_drew)); exact HO399.out⟩, ⟨by (with_reducible repeat (first | apply Kd.V_alloc | apply Kd.V_drewN | apply Kd.V_drew)); exact Kd.V_mono HO_377000.out (fun _ hk => ⟨hk.1.1, ⟨hk.2, hk.1.2.2⟩⟩)⟩, ⟨by (with_reducible repeat (first | apply Kd.V_alloc | apply Kd.V_drewN | apply Kd.V_drew)); exact Kd.V_mono HO_377003.out (fun _ hk => ⟨hk.1.1, ⟨hk.2, hk.1.2.2⟩⟩)⟩, ⟨by (with_reducible repeat (first | refine blk_drewN ?_ _ | refine blk_drew ?_ | refine blk_alloc ?_ _)); exact BK376.out⟩, ⟨by repeat (first | (with_reducible first | exact HB.out | apply below_alloc | apply pw_below_drewN | apply below_drew1 | refine below_set ?_ GE376.out) | exact HB.out)⟩⟩
        case round =>
          clear H'
          try clear c1
          try clear p2
          try clear c3
          try clear c3b0
          try clear p3
          try clear q3
          try clear hx3
          try clear c4
          try clear c4b0
          try clear c6
          try clear p6
          try clear c8
          try clear c10
          try clear c13
          try clear hcz11_0
          try clear hcz11_1
          try clear hcz11_2
          try clear hcz11_3
          try clear hcz14_0
          try clear hcz14_1
          try clear hcz14_2
          try clear hcz18_0
          try clear hcz18_1
          try clear hcz18_2
          try clear hcz22_0
          try clear hcz22_1
          try clear hcz22_2
          try clear hcz26_0
          try clear hcz26_1
          try clear hcz26_2
          try clear hcz26_3
          try clear hfz11_0
          try clear hfz11_1
          try clear hfz11_2
          try clear hfz11_3
          try clear hfz14_0
          try clear hfz14_1
          try clear hfz14_2
          try clear hfz18_0
          try clear hfz18_1
          try clear hfz18_2
          try clear hfz22_0
          try clear hfz22_1
          try clear hfz22_2
          try clear hfz26_0
          try clear hfz26_1
          try clear hfz26_2
          try clear hfz26_3
          try clear hx377_0
          try clear hx377_1
          try clear hx377_2
          try clear p2
          try clear p377
          try clear q377
          obtain ⟨x6_2, x7_2, rfl, HA, HK2, HO_6, HO_377000, HO_377003, BK376, HB⟩ := hrel
          cases gk with
          | zero => exact absurd HA.out (by simp [wispref07_sections.l1])
          | succ k2 =>
            have H := HA.out
            clear HA
            simp only [wispref07_sections.l1] at H
            by_cases c30 : x7_2 < (l0_3.length : Int)
            · rw [if_pos c30] at H
              have c30b0 : decide (x7_2 < (l0_3.length : Int)) = true := decide_eq_true c30
              clear c30
              by_cases c31 : 0 ≤ x7_2
              · rw [if_pos c31] at H
                have c31b0 : decide (0 ≤ x7_2) = true := decide_eq_true c31
                clear c31
                by_cases c32 : x6_2.length < 4398046511104
                · rw [if_pos c32] at H
                  have LMc32 := Aside0.mk c32
                  clear c32
                  obtain ⟨y402, hy402⟩ : ∃ y_ : List (S77), y_ = (x6_2 ++ [(⟨3, ((rd_T82 l0_3 x7_2).f0) % 256, (rd_T82 l0_3 x7_2).f1⟩ : S77)]) := ⟨_, rfl⟩
                  replace H : (wispref07_sections.l1 k2 y402 (wrap64 (x7_2 + 1)) l0_0 a0_1 l0_2 l0_3) = some r := by first | (rw [hy402]; with_reducible exact H) | (have H2_ := (Option.bind_some _ _).symm.trans H; rw [hy402]; with_reducible exact H2_) | (have H2_ := (Option.bind_some _ _).symm.trans H; with_reducible exact H2_) | with_reducible exact H | (rw [hy402]; exact H) | exact H
                  have Ny402 := Aside0.mk hy402
                  clear hy402
                  have H' := Aside0.mk H
                  clear H
                  have hcz33_0 : wr.cell? ⟨gb376, 0, none⟩ = some (.slice A0_0 l0_0.length c0_0) := (blk_cell BK376.out 0).trans rfl
                  have hcz33_1 : wr.cell? ⟨gb376, 1, none⟩ = some (.int .u16 a0_1) := (blk_cell BK376.out 1).trans rfl
                  have hcz33_2 : wr.cell? ⟨gb376, 2, none⟩ = some (.slice A0_2 l0_2.length c0_2) := (blk_cell BK376.out 2).trans rfl
                  have hcz33_3 : wr.cell? ⟨gb376, 3, none⟩ = some (.slice A0_3 l0_3.length c0_3) := (blk_cell BK376.out 3).trans rfl
                  have hfz33_0 := blk_frozen BK376.out 0
                  have hfz33_1 := blk_frozen BK376.out 1
                  have hfz33_2 := blk_frozen BK376.out 2
                  have hfz33_3 := blk_frozen BK376.out 3
                  try go_wp2
                  have n0_ := Aside0.mk (Kd.N_drew HO_6.out)
                  have n1_ := Aside0.mk (Kd.V_drew HO_377000.out)
                  have n2_ := Aside0.mk (Kd.V_drew HO_377003.out)
                  have n3_ := Aside0.mk (blk_drew BK376.out)
                  have n4_ := Aside0.mk (below_drew1 HB.out)
                  clear HO_6
                  clear HO_377000
                  clear HO_377003
                  clear BK376
                  clear HB
                  have HO_6 := n0_
                  have HO_377000 := n1_
                  have HO_377003 := n2_
                  have BK376 := n3_
                  have HB := n4_
                  clear n0_ n1_ n2_ n3_ n4_
                  have p400 : 0 ≤ (x7_2 : Int) := of_decide_eq_true (by first | (with_reducible assumption) | assumption)
                  have q400 : x7_2 < (l0_3.length : Int) := of_decide_eq_true (by first | (with_reducible assumption) | assumption)
                  obtain ⟨ad400, A400_1, c400_1, e400, hx400_0, hx400_1, hl400_1, hi400_1⟩ := at_T82 (Kd.V_reads' HO_377003.out).2.2 x7_2 p400 q400
                  cases e400
                  obtain ⟨ce400, hce400, hMe400, hcc400⟩ := Kd.V_get HO_377003.out z82 x7_2 p400 (by first | exact q400 | exact of_decide_eq_true (by first | (with_reducible assumption) | assumption) | (have e_ := (Kd.V_reads' HO_377003.out).1; omega))
                  obtain ⟨ua400_1, uc400_1, rfl, ul400_1, ge400_1⟩ := k82_openF hMe400
                  have hv400_1 := hcc400 1 _ rfl
                  rw [add_field _ _ 1 (by omega)] at hv400_1
                  replace hv400_1 := Option.some.inj (hv400_1.symm.trans hx400_1)
                  injection hv400_1 with hva_ hvn_ hvc_
                  rw [hva_] at ge400_1
                  rw [hvc_] at ul400_1
                  have HL400_1 := Aside0.mk (show Kd.V (Kd.int .u8) 5 _ w.heap.size _ _ ((rd_T82 l0_3 x7_2).f1) from Kd.V_mk ul400_1 ge400_1)
                  clear hva_ hvn_ hvc_ ge400_1 ul400_1
                  clear hcc400 hce400
                  have HR400_1 := Aside0.mk hi400_1
                  have HC400_1 := Aside0.mk hl400_1
                  clear hi400_1 hl400_1
                  replace p400 := eq_true p400
                  replace q400 := eq_true q400
                  have p401 : 0 ≤ (x7_2 : Int) := of_decide_eq_true (by first | (with_reducible assumption) | assumption)
                  have q401 : x7_2 < (l0_3.length : Int) := of_decide_eq_true (by first | (with_reducible assumption) | assumption)
                  obtain ⟨ad401, A401_1, c401_1, e401, hx401_0, hx401_1, hl401_1, hi401_1⟩ := at_T82 (Kd.V_reads' HO_377003.out).2.2 x7_2 p401 q401
                  obtain rfl : ad400 = ad401 := (by injection e401)
                  obtain ⟨ce401, hce401, hMe401, hcc401⟩ := Kd.V_get HO_377003.out z82 x7_2 p401 (by first | exact q401 | exact of_decide_eq_true (by first | (with_reducible assumption) | assumption) | (have e_ := (Kd.V_reads' HO_377003.out).1; omega))
                  obtain ⟨ua401_1, uc401_1, rfl, ul401_1, ge401_1⟩ := k82_openF hMe401
                  have hv401_1 := hcc401 1 _ rfl
                  rw [add_field _ _ 1 (by omega)] at hv401_1
                  replace hv401_1 := Option.some.inj (hv401_1.symm.trans hx401_1)
                  injection hv401_1 with hva_ hvn_ hvc_
                  rw [hva_] at ge401_1
                  rw [hvc_] at ul401_1
                  have HL401_1 := Aside0.mk (show Kd.V (Kd.int .u8) 5 _ w.heap.size _ _ ((rd_T82 l0_3 x7_2).f1) from Kd.V_mk ul401_1 ge401_1)
                  clear hva_ hvn_ hvc_ ge401_1 ul401_1
                  clear hcc401 hce401
                  have HR401_1 := Aside0.mk hi401_1
                  have HC401_1 := Aside0.mk hl401_1
                  clear hi401_1 hl401_1
                  replace p401 := eq_true p401
                  replace q401 := eq_true q401
                  have ea_ := Option.some.inj (hx400_1.symm.trans hx401_1)
                  injection ea_ with ea_ en_ ec_
                  subst ea_
                  subst ec_
                  clear en_
                  refine start_ (n := 18) (S := fun w' => w'.cell? ⟨gb376, 0, none⟩ = some (.slice A0_0 l0_0.length c0_0) ∧ w'.cell? ⟨gb376, 1, none⟩ = some (.int .u16 a0_1) ∧ w'.cell? ⟨gb376, 2, none⟩ = some (.slice A0_2 l0_2.length c0_2) ∧ w'.cell? ⟨gb376, 3, none⟩ = some (.slice (some ad400) l0_3.length c0_3) ∧ w'.cell? (ad400.add ((x7_2).toNat * 2)) = some (.int .i64 ((rd_T82 l0_3 x7_2).f0)) ∧ w'.cell? ⟨(ad400.add ((x7_2).toNat * 2)).block, (ad400.add ((x7_2).toNat * 2)).off + 1, none⟩ = some (.slice A400_1 ((rd_T82 l0_3 x7_2).f1).length c400_1) ∧ w'.cell? (ad400.add ((x7_2).toNat * 2)) = some (.int .i64 ((rd_T82 l0_3 x7_2).f0)) ∧ w'.cell? ⟨(ad400.add ((x7_2).toNat * 2)).block, (ad400.add ((x7_2).toNat * 2)).off + 1, none⟩ = some (.slice A400_1 ((rd_T82 l0_3 x7_2).f1).length c400_1)) (ds := [15, 16]) #[false, false, false, false, false, false, false, false, false, false, false, false, false, false, false, false, false, false] (by kernel_rfl) rfl rfl ⟨(blk_cell BK376.out 0).trans rfl, (blk_cell BK376.out 1).trans rfl, (blk_cell BK376.out 2).trans rfl, (blk_cell BK376.out 3).trans rfl, hx400_0, hx400_1, hx401_0, hx401_1⟩ (fun hHeld => ?_); refine with_tabW wispref07_sections.tab13 wispref07_sections.bits13 (fun HT_ HW_ => ?_)
                  generalize wr.drew = w34 at HO_6 HO_377000 HO_377003 BK376 HB HL400_1 HL401_1 HR400_1 HR401_1 hx400_0 hx400_1 hx401_0 hx401_1 hHeld ⊢
                  refine pure_ (i := 0) (N := some 51) (v := ?_) (a' := ?_) #[true, false, false, false, false, false, false, false, false, false, false, false, false, false, false, false, false, false] rfl rfl (any_of HT_.out (by kernel_rfl)) (fun _ _ _ h => h) (Or.inl ⟨by rfl, ?_⟩) ?_ ?_
                  rotate_left
                  · intro w'
                    go_simp
                    with_reducible rfl
                  rotate_left
                  · simp only [Act.put, List.setIfInBounds_toArray, List.set_cons_zero, List.set_cons_succ, i64_w, i32_w]
                    rfl
                  refine pure_ (i := 1) (N := some 52) (v := ?_) (a' := ?_) #[true, true, false, false, false, false, false, false, false, false, false, false, false, false, false, false, false, false] rfl rfl (any_of HT_.out (by kernel_rfl)) (fun _ _ _ h => h) (Or.inl ⟨by rfl, ?_⟩) ?_ ?_
                  rotate_left
                  · intro w'
                    go_simp
                    with_reducible rfl
                  rotate_left
                  · simp only [Act.put, List.setIfInBounds_toArray, List.set_cons_zero, List.set_cons_succ, i64_w, i32_w]
                    rfl
                  refine pure_ (i := 3) (N := some 54) (v := ?_) (a' := ?_) #[true, true, false, true, false, false, false, false, false, false, false, false, false, false, false, false, false, false] rfl rfl (any_of HT_.out (by kernel_rfl)) (fun _ _ _ h => h) (Or.inl ⟨by rfl, ?_⟩) ?_ ?_
                  rotate_left
                  · intro w'
                    go_simp
                    with_reducible rfl
                  rotate_left
                  · simp only [Act.put, List.setIfInBounds_toArray, List.set_cons_zero, List.set_cons_succ, i64_w, i32_w]
                    rfl
                  refine pure_ (i := 8) (N := some 59) (v := ?_) (a' := ?_) #[true, true, false, true, false, false, false, false, true, false, false, false, false, false, false, false, false, false] rfl rfl (any_of HT_.out (by kernel_rfl)) (fun _ _ _ h => h) (Or.inl ⟨by rfl, ?_⟩) ?_ ?_
                  rotate_left
                  · intro w'
                    go_simp
                    with_reducible rfl
                  rotate_left
                  · simp only [Act.put, List.setIfInBounds_toArray, List.set_cons_zero, List.set_cons_succ, i64_w, i32_w]
                    rfl
                  refine pure_ (i := 10) (N := some 61) (v := ?_) (a' := ?_) #[true, true, false, true, false, false, false, false, true, false, true, false, false, false, false, false, false, false] rfl rfl (any_of HT_.out (by kernel_rfl)) (fun _ _ _ h => h) (Or.inl ⟨by rfl, ?_⟩) ?_ ?_
                  rotate_left
                  · intro w'
                    go_simp
                    with_reducible rfl
                  rotate_left
                  · simp only [Act.put, List.setIfInBounds_toArray, List.set_cons_zero, List.set_cons_succ, i64_w, i32_w]
                    rfl
                  refine take_ (i := 2) (N := some 53) (v := ?_) (a' := ?_) #[true, true, true, true, false, false, false, false, true, false, true, false, false, false, false, false, false, false] rfl rfl (take_ofW HT_.out HW_.out (by kernel_rfl)) (fun _ _ _ h => h) (Or.inl ⟨by rfl, ?_⟩) hHeld ?_ ?_
                  rotate_left
                  · rintro w' ⟨s0, s1, s2, s3, s4, s5, s6, s7⟩
                    go_simp
                    with_reducible rfl
                  rotate_left
                  · simp only [Act.put, List.setIfInBounds_toArray, List.set_cons_zero, List.set_cons_succ, i64_w, i32_w]
                    rfl
                  refine pure_ (i := 4) (N := some 55) (v := ?_) (a' := ?_) #[true, true, true, true, true, false, false, false, true, false, true, false, false, false, false, false, false, false] rfl rfl (any_of HT_.out (by kernel_rfl)) (fun _ _ _ h => h) (Or.inl ⟨by rfl, ?_⟩) ?_ ?_
                  rotate_left
                  · intro w'
                    go_simp
                    with_reducible rfl
                  rotate_left
                  · simp only [Act.put, List.setIfInBounds_toArray, List.set_cons_zero, List.set_cons_succ, i64_w, i32_w]
                    rfl
                  refine pure_ (i := 5) (N := some 56) (v := ?_) (a' := ?_) #[true, true, true, true, true, true, false, false, true, false, true, false, false, false, false, false, false, false] rfl rfl (any_of HT_.out (by kernel_rfl)) (fun _ _ _ h => h) (Or.inl ⟨by rfl, ?_⟩) ?_ ?_
                  rotate_left
                  · intro w'
                    go_simp
                    with_reducible rfl
                  rotate_left
                  · simp only [Act.put, List.setIfInBounds_toArray, List.set_cons_zero, List.set_cons_succ, i64_w, i32_w]
                    rfl
                  refine take_ (i := 6) (N := some 57) (v := ?_) (a' := ?_) #[true, true, true, true, true, true, true, false, true, false, true, false, false, false, false, false, false, false] rfl rfl (take_ofW HT_.out HW_.out (by kernel_rfl)) (fun _ _ _ h => h) (Or.inl ⟨by rfl, ?_⟩) hHeld ?_ ?_
                  rotate_left
                  · rintro w' ⟨s0, s1, s2, s3, s4, s5, s6, s7⟩
                    go_simp
                    with_reducible rfl
                  rotate_left
                  · simp only [Act.put, List.setIfInBounds_toArray, List.set_cons_zero, List.set_cons_succ, i64_w, i32_w]
                    rfl
                  refine pure_ (i := 7) (N := some 58) (v := ?_) (a' := ?_) #[true, true, true, true, true, true, true, true, true, false, true, false, false, false, false, false, false, false] rfl rfl (any_of HT_.out (by kernel_rfl)) (fun _ _ _ h => h) (Or.inl ⟨by rfl, ?_⟩) ?_ ?_
                  rotate_left
                  · intro w'
                    go_simp
                    with_reducible rfl
                  rotate_left
                  · simp only [Act.put, List.setIfInBounds_toArray, List.set_cons_zero, List.set_cons_succ, i64_w, i32_w]
                    rfl
                  refine take_ (i := 9) (N := some 60) (v := ?_) (a' := ?_) #[true, true, true, true, true, true, true, true, true, true, true, false, false, false, false, false, false, false] rfl rfl (take_ofW HT_.out HW_.out (by kernel_rfl)) (fun _ _ _ h => h) (Or.inl ⟨by rfl, ?_⟩) hHeld ?_ ?_
                  rotate_left
                  · rintro w' ⟨s0, s1, s2, s3, s4, s5, s6, s7⟩
                    go_simp
                    with_reducible rfl
                  rotate_left
                  · simp only [Act.put, List.setIfInBounds_toArray, List.set_cons_zero, List.set_cons_succ, i64_w, i32_w]
                    rfl
                  refine pure_ (i := 11) (N := some 62) (v := ?_) (a' := ?_) #[true, true, true, true, true, true, true, true, true, true, true, true, false, false, false, false, false, false] rfl rfl (any_of HT_.out (by kernel_rfl)) (fun _ _ _ h => h) (Or.inl ⟨by rfl, ?_⟩) ?_ ?_
                  rotate_left
                  · intro w'
                    go_simp
                    with_reducible rfl
                  rotate_left
                  · simp only [Act.put, List.setIfInBounds_toArray, List.set_cons_zero, List.set_cons_succ, i64_w, i32_w]
                    rfl
                  refine pure_ (i := 12) (N := some 63) (v := ?_) (a' := ?_) #[true, true, true, true, true, true, true, true, true, true, true, true, true, false, false, false, false, false] rfl rfl (any_of HT_.out (by kernel_rfl)) (fun _ _ _ h => h) (Or.inl ⟨by rfl, ?_⟩) ?_ ?_
                  rotate_left
                  · intro w'
                    go_simp
                    with_reducible rfl
                  rotate_left
                  · simp only [Act.put, List.setIfInBounds_toArray, List.set_cons_zero, List.set_cons_succ, i64_w, i32_w]
                    rfl
                  refine take_ (i := 13) (N := some 64) (v := ?_) (a' := ?_) #[true, true, true, true, true, true, true, true, true, true, true, true, true, true, false, false, false, false] rfl rfl (take_ofW HT_.out HW_.out (by kernel_rfl)) (fun _ _ _ h => h) (Or.inl ⟨by rfl, ?_⟩) hHeld ?_ ?_
                  rotate_left
                  · rintro w' ⟨s0, s1, s2, s3, s4, s5, s6, s7⟩
                    go_simp
                    with_reducible rfl
                  rotate_left
                  · simp only [Act.put, List.setIfInBounds_toArray, List.set_cons_zero, List.set_cons_succ, i64_w, i32_w]
                    rfl
                  refine pure_ (i := 14) (N := some 65) (v := ?_) (a' := ?_) #[true, true, true, true, true, true, true, true, true, true, true, true, true, true, true, false, false, false] rfl rfl (any_of HT_.out (by kernel_rfl)) (fun _ _ _ h => h) (Or.inl ⟨by rfl, ?_⟩) ?_ ?_
                  rotate_left
                  · intro w'
                    go_simp
                    with_reducible rfl
                  rotate_left
                  · simp only [Act.put, List.setIfInBounds_toArray, List.set_cons_zero, List.set_cons_succ, i64_w, i32_w]
                    rfl
                  refine last_ (i := 15) (N := some 66) #[true, true, true, true, true, true, true, true, true, true, true, true, true, true, true, true, false, false] rfl rfl (one_of HT_.out (by kernel_rfl)) (by decide) (fun K hK => ?_)
                  refine value_ (w1 := ?_) (v := ?_) (by rfl) rfl ?_ ?_
                  rotate_left 2
                  · go_simp
                    constructor
                    · rfl
                    · rfl
                  refine hK.out _ _ ?_
                  clear hK K
                  refine norm_ (a' := ?_) ?_ ?_
                  rotate_left
                  · show Act.put _ (some 66) _ = _
                    simp only [Act.put, List.setIfInBounds_toArray, List.set_cons_zero, List.set_cons_succ, i64_w, i32_w]
                    rfl
                  refine last_ (i := 16) (N := some 67) #[true, true, true, true, true, true, true, true, true, true, true, true, true, true, true, true, true, false] rfl rfl (one_of HT_.out (by kernel_rfl)) (by decide) (fun K hK => ?_)
                  refine Kd.N_append_step k77 (w0 := w) w.heap.size (by rfl) (.tmp 51) (.tmp 66) 75 77 (.agg #[(.int .u8 0), (.int .u8 0), (.slice none 0 0)]) 32 rfl Tryd.underlying75 info77 rfl (by decide) (by omega) u6 x6_2 (⟨3, ((rd_T82 l0_3 x7_2).f0) % 256, (rd_T82 l0_3 x7_2).f1⟩ : S77) [.int .u8 3, .int .u8 (((rd_T82 l0_3 x7_2).f0) % 256), .slice A400_1 ((rd_T82 l0_3 x7_2).f1).length c400_1] (fun k_ => ((P0_0_ k_ ∨ P0_3_ k_) ∨ w.heap.size ≤ k_) ∧ k_ ≠ gb376) (fun k_ => ((fun k_ => ((P0_0_ k_ ∨ P0_3_ k_) ∨ w.heap.size ≤ k_) ∧ k_ ≠ gb376)) k_ ∧ some k_ ≠ (u6 : Value).ownBlock) rfl rfl ?aP (fun _ hk => hk) ?aF ?aO ?aB ?aS ?aL ?_
                  (case aP => exact (k77_mkF _ _ (⟨3, ((rd_T82 l0_3 x7_2).f0) % 256, (rd_T82 l0_3 x7_2).f1⟩ : S77) (Kd.V_reads' (Kd.V_mono (ok' := (fun k_ => ((fun k_ => ((P0_0_ k_ ∨ P0_3_ k_) ∨ w.heap.size ≤ k_) ∧ k_ ≠ gb376)) k_ ∧ some k_ ≠ (u6 : Value).ownBlock)) (HL401_1.out) (fun k_ hk => ⟨⟨hk.1, hk.2.2⟩, hk.2.1⟩))).2.1 (Kd.V_F (Kd.V_mono (ok' := (fun k_ => ((fun k_ => ((P0_0_ k_ ∨ P0_3_ k_) ∨ w.heap.size ≤ k_) ∧ k_ ≠ gb376)) k_ ∧ some k_ ≠ (u6 : Value).ownBlock)) (HL401_1.out) (fun k_ hk => ⟨⟨hk.1, hk.2.2⟩, hk.2.1⟩)))))
                  (case aB => exact (by repeat (first | (with_reducible first | exact HB.out | apply below_alloc | apply pw_below_drewN | apply below_drew1 | refine below_set ?_ GE376.out) | exact HB.out)))
                  (case aF => exact (fun k_ hk => ⟨(.inr (Nat.le_trans (below_size (by repeat (first | (with_reducible first | exact HB.out | apply below_alloc | apply pw_below_drewN | apply below_drew1 | refine below_set ?_ GE376.out) | exact HB.out))) hk)), Kd.freshB (g := gb376) (o := .cells #[.slice A0_0 l0_0.length c0_0, .int .u16 a0_1, .slice A0_2 l0_2.length c0_2, .slice (some ad400) l0_3.length c0_3] 28 (0, 0)) (by (with_reducible repeat (first | refine blk_drewN ?_ _ | refine blk_drew ?_ | refine blk_alloc ?_ _)); exact BK376.out) k_ hk⟩))
                  (case aO => exact (by (with_reducible repeat (first | apply Kd.N_alloc | apply Kd.N_drewN | apply Kd.N_drew)); exact HO_6.out))
                  (case aS => exact (below_size (by repeat (first | (with_reducible first | exact HB.out | apply below_alloc | apply pw_below_drewN | apply below_drew1 | refine below_set ?_ GE376.out) | exact HB.out))))
                  (case aL => have := LMc32.out; omega)
                  intro v403 w35 ho hb hg hat
                  rw [← Ny402.out] at ho
                  have n0_ := Aside0.mk (Kd.V_afterv (ok := (fun k_ => ((P0_0_ k_ ∨ P0_3_ k_) ∨ w.heap.size ≤ k_) ∧ k_ ≠ gb376)) (by (with_reducible repeat (first | apply Kd.V_alloc | apply Kd.V_drewN | apply Kd.V_drew)); exact Kd.V_mono HO_377000.out (fun _ hk => ⟨⟨hk.1, hk.2.2⟩, hk.2.1⟩)) hg hat)
                  have n1_ := Aside0.mk (Kd.V_afterv (ok := (fun k_ => ((P0_0_ k_ ∨ P0_3_ k_) ∨ w.heap.size ≤ k_) ∧ k_ ≠ gb376)) (by (with_reducible repeat (first | apply Kd.V_alloc | apply Kd.V_drewN | apply Kd.V_drew)); exact Kd.V_mono HO_377003.out (fun _ hk => ⟨⟨hk.1, hk.2.2⟩, hk.2.1⟩)) hg hat)
                  have n2_ := Aside0.mk (blk_grown (g := gb376) (o := .cells #[.slice A0_0 l0_0.length c0_0, .int .u16 a0_1, .slice A0_2 l0_2.length c0_2, .slice (some ad400) l0_3.length c0_3] 28 (0, 0)) (by (with_reducible repeat (first | refine blk_drewN ?_ _ | refine blk_drew ?_ | refine blk_alloc ?_ _)); exact BK376.out) hg (Kd.N_ne HO_6.out BK376.out (by decide)))
                  have n3_ := Aside0.mk (Kd.V_afterv (ok := (fun k_ => ((P0_0_ k_ ∨ P0_3_ k_) ∨ w.heap.size ≤ k_) ∧ k_ ≠ gb376)) (by (with_reducible repeat (first | apply Kd.V_alloc | apply Kd.V_drewN | apply Kd.V_drew)); exact Kd.V_mono HL400_1.out (fun _ hk => ⟨⟨hk.1, hk.2.2⟩, hk.2.1⟩)) hg hat)
                  have n4_ := Aside0.mk (Kd.V_afterv (ok := (fun k_ => ((P0_0_ k_ ∨ P0_3_ k_) ∨ w.heap.size ≤ k_) ∧ k_ ≠ gb376)) (by (with_reducible repeat (first | apply Kd.V_alloc | apply Kd.V_drewN | apply Kd.V_drew)); exact Kd.V_mono HL401_1.out (fun _ hk => ⟨⟨hk.1, hk.2.2⟩, hk.2.1⟩)) hg hat)
                  have n5_ := Aside0.mk (hb)
                  have n6_ := Aside0.mk (ho)
                  clear HO_377000
                  clear HO_377003
                  clear BK376
                  clear HL400_1
                  clear HL401_1
                  clear HB
                  clear HO_6
                  have HO_377000 := n0_
                  have HO_377003 := n1_
                  have BK376 := n2_
                  have HL400_1 := n3_
                  have HL401_1 := n4_
                  have HB := n5_
                  have HO404 := n6_
                  clear n0_ n1_ n2_ n3_ n4_ n5_ n6_
                  clear ho hb hg hat
                  refine hK.out _ _ ?_
                  clear hK K
                  refine norm_ (a' := ?_) ?_ ?_
                  rotate_left
                  · show Act.put _ (some 67) _ = _
                    simp only [Act.put, List.setIfInBounds_toArray, List.set_cons_zero, List.set_cons_succ, i64_w, i32_w]
                    rfl
                  refine pure_ (i := 17) (N := some 6) (v := ?_) (a' := ?_) #[true, true, true, true, true, true, true, true, true, true, true, true, true, true, true, true, true, true] rfl rfl (any_of HT_.out (by kernel_rfl)) (fun _ _ _ h => h) (Or.inl ⟨by rfl, ?_⟩) ?_ ?_
                  rotate_left
                  · intro w'
                    go_simp
                    with_reducible rfl
                  rotate_left
                  · simp only [Act.put, List.setIfInBounds_toArray, List.set_cons_zero, List.set_cons_succ, i64_w, i32_w]
                    rfl
                  refine done_ (done_of HT_.out (by kernel_rfl)) ?_
                  try go_wp2
                  go_roundg k2
                  case measure => have := HK1.out; have := HK2.out; omega
                  case rel => exact ⟨(y402), (wrap64 (x7_2 + 1)), (by first | rfl | (simp; done) | (simp [*]; done) | (simp [isEmpty_ne]; done)), H', ⟨by have := HK1.out; have := HK2.out; omega⟩, ⟨by (with_reducible repeat (first | apply Kd.N_alloc | apply Kd.N_drewN | apply Kd.N_drew)); exact HO404.out⟩, ⟨by (with_reducible repeat (first | apply Kd.V_alloc | apply Kd.V_drewN | apply Kd.V_drew)); exact Kd.V_mono HO_377000.out (fun _ hk => ⟨hk.1.1, ⟨hk.2, hk.1.2⟩⟩)⟩, ⟨by (with_reducible repeat (first | apply Kd.V_alloc | apply Kd.V_drewN | apply Kd.V_drew)); exact Kd.V_mono HO_377003.out (fun _ hk => ⟨hk.1.1, ⟨hk.2, hk.1.2⟩⟩)⟩, ⟨by (with_reducible repeat (first | refine blk_drewN ?_ _ | refine blk_drew ?_ | refine blk_alloc ?_ _)); exact BK376.out⟩, ⟨by repeat (first | (with_reducible first | exact HB.out | apply below_alloc | apply pw_below_drewN | apply below_drew1 | refine below_set ?_ GE376.out) | exact HB.out)⟩⟩
                · rw [if_neg c32] at H
                  exact absurd H (by simp)
              · rw [if_neg c31] at H
                exact absurd H (by simp)
            · rw [if_neg c30] at H
              have c30b0 : decide (x7_2 < (l0_3.length : Int)) = false := decide_eq_false c30
              clear c30
              obtain rfl := Option.some.inj H
              have hcz36_0 : wr.cell? ⟨gb376, 0, none⟩ = some (.slice A0_0 l0_0.length c0_0) := (blk_cell BK376.out 0).trans rfl
              have hcz36_1 : wr.cell? ⟨gb376, 1, none⟩ = some (.int .u16 a0_1) := (blk_cell BK376.out 1).trans rfl
              have hcz36_2 : wr.cell? ⟨gb376, 2, none⟩ = some (.slice A0_2 l0_2.length c0_2) := (blk_cell BK376.out 2).trans rfl
              have hcz36_3 : wr.cell? ⟨gb376, 3, none⟩ = some (.slice A0_3 l0_3.length c0_3) := (blk_cell BK376.out 3).trans rfl
              have hfz36_0 := blk_frozen BK376.out 0
              have hfz36_1 := blk_frozen BK376.out 1
              have hfz36_2 := blk_frozen BK376.out 2
              have hfz36_3 := blk_frozen BK376.out 3
              go_wp2
              go_ret
              exact ⟨_, by first | rfl | (simp [errW_none, errW_some] <;> rfl) | (simp [*, errW_none, errW_some] <;> rfl), by (with_reducible repeat (first | apply Kd.N_alloc | apply Kd.N_drewN | apply Kd.N_drew)); exact Kd.N_mono HO_6.out (fun _ hk => hk.1), by repeat (first | (with_reducible first | exact HB.out | apply below_alloc | apply pw_below_drewN | apply below_drew1 | refine below_set ?_ GE376.out) | exact HB.out)⟩

end Go.Proofs.YtembdahclmffjaaDoor.P
