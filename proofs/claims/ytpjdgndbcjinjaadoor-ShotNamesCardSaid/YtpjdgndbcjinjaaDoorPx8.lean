/- Printed by a program of this session (it turns the kit's print): see wip/myprint. -/
import Derived.Test.YtpjdgndbcjinjaaDoorPx0
import Derived.Test.YtpjdgndbcjinjaaDoorPx1
import Derived.Test.YtpjdgndbcjinjaaDoorPack
namespace Go.Proofs.YtpjdgndbcjinjaaDoor.P
open Go.RowKit Go.Proofs.YtpjdgndbcjinjaaDoorW.PrintWords Go.Proofs.YtpjdgndbcjinjaaDoorW.PrintLast Go.Proofs.YtpjdgndbcjinjaaDoorW.PrintMore Go.Proofs.YtpjdgndbcjinjaaDoor.Mine
attribute [local go_sem] max2_int min2_int max_two min_two max_three min_three max_four min_four   -- for this text's walks alone
set_option linter.unusedVariables false
set_option linter.unusedSimpArgs false

/-! ### shot_Apply: function 16 -/
def shot_Apply.l0 : Nat → List Int → List (S51) → Int → Int → Option (List Int × Int)
  | 0, _, _, _, _ => none
  | k + 1, x6, x14, x15, x16 => if x16 < x15 then (if 0 ≤ x16 then (if x16 < (x14.length : Int) then (if ((rd_T51 x14 x16).f0) < 0 then (some (([] : List Int), 2)) else (if ((rd_T51 x14 x16).f0) ≥ 64 then (some (([] : List Int), 2)) else (if ((rd_T51 x14 x16).f1) < 0 then (some (([] : List Int), 2)) else (if ((rd_T51 x14 x16).f1) ≥ 48 then (some (([] : List Int), 2)) else (if 0 ≤ (wrap64 ((wrap64 (((rd_T51 x14 x16).f1) * 64)) + ((rd_T51 x14 x16).f0))) then (if (wrap64 ((wrap64 (((rd_T51 x14 x16).f1) * 64)) + ((rd_T51 x14 x16).f0))) < (x6.length : Int) then (if (rd x6 (wrap64 ((wrap64 (((rd_T51 x14 x16).f1) * 64)) + ((rd_T51 x14 x16).f0)))) = ((rd_T51 x14 x16).f2) then (shot_Apply.l0 k (x6.set ((wrap64 ((wrap64 (((rd_T51 x14 x16).f1) * 64)) + ((rd_T51 x14 x16).f0))) : Int).toNat ((rd_T51 x14 x16).f3)) x14 x15 (wrap64 (x16 + 1))) else (some (([] : List Int), 2))) else (none)) else (none)))))) else (none)) else (none)) else (some (x6, 0))
def shot_Apply.f (k : Nat) (l0 : List Int) (l1 : List (S51)) : Option (List Int × Int) := (shot_screen.f l0).bind fun t338 => (if t338 = true then ((bytes_Clone.f l0).bind fun t339 => (shot_Apply.l0 k t339 l1 (l1.length : Int) 0)) else (some (([] : List Int), 2)))
theorem shot_Apply.mono_l : ∀ k, (∀ y0 y1 y2 y3, LeO (shot_Apply.l0 k y0 y1 y2 y3) (shot_Apply.l0 (k + 1) y0 y1 y2 y3))
  | 0 => fun _ _ _ _ r h => by simp [shot_Apply.l0] at h
  | k + 1 => by
    have ih0 := shot_Apply.mono_l k
    · intro y0 y1 y2 y3
      unfold shot_Apply.l0
      repeat' first
      | (with_reducible exact ih0 _ _ _ _)
      | (with_reducible exact LeO.refl _)
      | (with_reducible exact LeO.none _)
      | (with_reducible refine LeO.ite ?_ ?_)
      | (with_reducible refine LeO.bind ?_ (fun _ => ?_))
      | exact ih0 _ _ _ _
      | exact LeO.none _
      | refine LeO.ite ?_ ?_
      | refine LeO.bind ?_ (fun _ => ?_)
theorem shot_Apply.mono : ∀ a0 a1 k, LeO (shot_Apply.f k a0 a1) (shot_Apply.f (k + 1) a0 a1) := by
  intro a0 a1 k
  have ih0 := shot_Apply.mono_l k
  unfold shot_Apply.f
  repeat' first
      | (with_reducible exact ih0 _ _ _ _)
      | (with_reducible exact LeO.refl _)
      | (with_reducible exact LeO.none _)
      | (with_reducible refine LeO.ite ?_ ?_)
      | (with_reducible refine LeO.bind ?_ (fun _ => ?_))
      | exact ih0 _ _ _ _
      | exact LeO.none _
      | refine LeO.ite ?_ ?_
      | refine LeO.bind ?_ (fun _ => ?_)
set_option maxHeartbeats 8000000 in
set_option maxRecDepth 100000 in
theorem shot_Apply.calls (k : Nat) (A0 : Option Addr) (c0 : Nat) (l0 : List Int) (A1 : Option Addr) (c1 : Nat) (l1 : List (S51)) (r1 : List Int) (r2 : Int) (w : World) (hr0 : Kd.C (Kd.int .u8) w A0 l0.length l0) (hc0 : l0.length ≤ c0) (hr1 : Kd.C k51 w A1 l1.length l1) (hc1 : l1.length ≤ c1) (h : shot_Apply.f k l0 l1 = some (r1, r2)) :
    Calls Tryd.prog 16 #[.slice A0 l0.length c0, .slice A1 l1.length c1] w fun e w' => ∃ v0_ : Value, e = .returned (.tuple #[v0_, .int .i64 r2]) ∧ Kd.R (Kd.int .u8) 5 w' w.heap.size (fun _ => True) v0_ r1 ∧ Below w.heap.size w w' := by
  have hu51 := Tryd.underlying51
  have HR0 := Aside0.mk hr0
  have HC0 := Aside0.mk hc0
  clear hr0 hc0
  have HR1 := Aside0.mk hr1
  have HC1 := Aside0.mk hc1
  clear hr1 hc1
  have HB := Aside0.mk (Below.refl w.heap.size w)
  have H : ((shot_screen.f l0).bind fun t338 => (if t338 = true then ((bytes_Clone.f l0).bind fun t339 => (shot_Apply.l0 k t339 l1 (l1.length : Int) 0)) else (some (([] : List Int), 2)))) = some (r1, r2) := h
  clear h
  replace H := Option.bind_eq_some_iff.mp H
  obtain ⟨t338, A30, H⟩ := H
  replace H : (if t338 = true then ((bytes_Clone.f l0).bind fun t339 => (shot_Apply.l0 k t339 l1 (l1.length : Int) 0)) else (some (([] : List Int), 2))) = some (r1, r2) := H
  have A3 := Aside0.mk A30
  clear A30
  by_cases c4 : t338 = true
  · subst c4
    have H1 : ((bytes_Clone.f l0).bind fun t339 => (shot_Apply.l0 k t339 l1 (l1.length : Int) 0)) = some (r1, r2) := by rw [if_pos rfl] at H; exact H
    clear H
    have H := H1
    clear H1
    replace H := Option.bind_eq_some_iff.mp H
    obtain ⟨t339, A50, H⟩ := H
    replace H : (shot_Apply.l0 k t339 l1 (l1.length : Int) 0) = some (r1, r2) := H
    have A5 := Aside0.mk A50
    clear A50
    have H' := Aside0.mk H
    clear H
    go_enter Tryd.func16, Tryd.ntmps16
    go_wp2_with (first | (go_at_call 32; (with_reducible refine (shot_screen.calls _ _ l0 true _ ?side1 ?side2 A3.out).mono ?_); (case side1 => repeat (first | exact HR0.out | (with_reducible refine Kd.C_alloc ?_ _) | (with_reducible refine Kd.C_drewN ?_ _) | (with_reducible refine Kd.C_drew ?_))); (case side2 => exact HC0.out); rintro e w' ⟨rfl, ⟨nd, rfl⟩⟩; (try first | exact ⟨rfl, _, World.drewN_drewN _ _ _⟩ | exact ⟨rfl, _, Eq.trans (World.drewN_drewN _ _ _) (congrArg (World.drewN _) (Nat.add_assoc _ _ _))⟩)) | (go_at_call 33; (with_reducible refine (bytes_Clone.calls _ _ l0 t339 _ ?side1 ?side2 A5.out).mono ?_); (case side1 => repeat (first | exact HR0.out | (with_reducible refine Kd.C_alloc ?_ _) | (with_reducible refine Kd.C_drewN ?_ _) | (with_reducible refine Kd.C_drew ?_))); (case side2 => exact HC0.out); rintro e w6 ⟨v340, rfl, ho0, hb⟩; have n0_ := Aside0.mk (Kd.R_lower ho0 (below_size (by repeat (first | (with_reducible first | exact HB.out | apply below_alloc | apply pw_below_drewN | apply below_drew1) | exact HB.out)))); have n1_ := Aside0.mk (below_step (by repeat (first | (with_reducible first | exact HB.out | apply below_alloc | apply pw_below_drewN | apply below_drew1) | exact HB.out)) hb); clear HB; have HO341 := n0_; have HB := n1_; clear n0_ n1_; (try clear hb); (try clear hb2); (try clear hk); (try clear hi); (try clear ho0)))
    repeat (go_quiet (first | (go_at_call 32; (with_reducible refine (shot_screen.calls _ _ l0 true _ ?side1 ?side2 A3.out).mono ?_); (case side1 => repeat (first | exact HR0.out | (with_reducible refine Kd.C_alloc ?_ _) | (with_reducible refine Kd.C_drewN ?_ _) | (with_reducible refine Kd.C_drew ?_))); (case side2 => exact HC0.out); rintro e w' ⟨rfl, ⟨nd, rfl⟩⟩; (try first | exact ⟨rfl, _, World.drewN_drewN _ _ _⟩ | exact ⟨rfl, _, Eq.trans (World.drewN_drewN _ _ _) (congrArg (World.drewN _) (Nat.add_assoc _ _ _))⟩)) | (go_at_call 33; (with_reducible refine (bytes_Clone.calls _ _ l0 t339 _ ?side1 ?side2 A5.out).mono ?_); (case side1 => repeat (first | exact HR0.out | (with_reducible refine Kd.C_alloc ?_ _) | (with_reducible refine Kd.C_drewN ?_ _) | (with_reducible refine Kd.C_drew ?_))); (case side2 => exact HC0.out); rintro e w6 ⟨v340, rfl, ho0, hb⟩; have n0_ := Aside0.mk (Kd.R_lower ho0 (below_size (by repeat (first | (with_reducible first | exact HB.out | apply below_alloc | apply pw_below_drewN | apply below_drew1) | exact HB.out)))); have n1_ := Aside0.mk (below_step (by repeat (first | (with_reducible first | exact HB.out | apply below_alloc | apply pw_below_drewN | apply below_drew1) | exact HB.out)) hb); clear HB; have HO341 := n0_; have HB := n1_; clear n0_ n1_; (try clear hb); (try clear hb2); (try clear hk); (try clear hi); (try clear ho0))); try go_wp2_with (first | (go_at_call 32; (with_reducible refine (shot_screen.calls _ _ l0 true _ ?side1 ?side2 A3.out).mono ?_); (case side1 => repeat (first | exact HR0.out | (with_reducible refine Kd.C_alloc ?_ _) | (with_reducible refine Kd.C_drewN ?_ _) | (with_reducible refine Kd.C_drew ?_))); (case side2 => exact HC0.out); rintro e w' ⟨rfl, ⟨nd, rfl⟩⟩; (try first | exact ⟨rfl, _, World.drewN_drewN _ _ _⟩ | exact ⟨rfl, _, Eq.trans (World.drewN_drewN _ _ _) (congrArg (World.drewN _) (Nat.add_assoc _ _ _))⟩)) | (go_at_call 33; (with_reducible refine (bytes_Clone.calls _ _ l0 t339 _ ?side1 ?side2 A5.out).mono ?_); (case side1 => repeat (first | exact HR0.out | (with_reducible refine Kd.C_alloc ?_ _) | (with_reducible refine Kd.C_drewN ?_ _) | (with_reducible refine Kd.C_drew ?_))); (case side2 => exact HC0.out); rintro e w6 ⟨v340, rfl, ho0, hb⟩; have n0_ := Aside0.mk (Kd.R_lower ho0 (below_size (by repeat (first | (with_reducible first | exact HB.out | apply below_alloc | apply pw_below_drewN | apply below_drew1) | exact HB.out)))); have n1_ := Aside0.mk (below_step (by repeat (first | (with_reducible first | exact HB.out | apply below_alloc | apply pw_below_drewN | apply below_drew1) | exact HB.out)) hb); clear HB; have HO341 := n0_; have HB := n1_; clear n0_ n1_; (try clear hb); (try clear hb2); (try clear hk); (try clear hi); (try clear ho0))))
    go_loopg [16] k (fun kq v16 w' => ∃ (x6_1 : List Int) (x16_1 : Int), v16 = .int .i64 x16_1 ∧ Aside0 (shot_Apply.l0 kq x6_1 l1 (l1.length : Int) x16_1 = some (r1, r2)) ∧ Aside0 (kq ≤ k) ∧ Aside0 (Kd.R (Kd.int .u8) 5 w' w.heap.size (fun _ => True) v340 x6_1) ∧ Aside0 (Below w.heap.size w w'))
    case atStart => exact ⟨(t339), (0), (by first | rfl | (simp; done) | (simp [*]; done) | (simp [isEmpty_ne]; done)), H', ⟨Nat.le_refl _⟩, ⟨by (with_reducible repeat (first | apply Kd.R_alloc | apply Kd.R_drewN | apply Kd.R_drew)); exact HO341.out⟩, ⟨by repeat (first | (with_reducible first | exact HB.out | apply below_alloc | apply pw_below_drewN | apply below_drew1) | exact HB.out)⟩⟩
    case round =>
      clear H'
      try clear c1
      try clear p2
      try clear c4
      obtain ⟨x6_1, x16_1, rfl, HA, HK1, HO_6, HB⟩ := hrel
      cases gk with
      | zero => exact absurd HA.out (by simp [shot_Apply.l0])
      | succ k1 =>
        have H := HA.out
        clear HA
        simp only [shot_Apply.l0] at H
        by_cases c7 : x16_1 < (l1.length : Int)
        · rw [if_pos c7] at H
          have c7b0 : decide (x16_1 < (l1.length : Int)) = true := decide_eq_true c7
          clear c7
          by_cases c8 : 0 ≤ x16_1
          · rw [if_pos c8] at H
            have c8b0 : decide (0 ≤ x16_1) = true := decide_eq_true c8
            clear c8
            by_cases c9 : x16_1 < (l1.length : Int)
            · rw [if_pos c9] at H
              have c9b0 : decide (x16_1 < (l1.length : Int)) = true := decide_eq_true c9
              clear c9
              by_cases c10 : ((rd_T51 l1 x16_1).f0) < 0
              · rw [if_pos c10] at H
                have c10b0 : decide (((rd_T51 l1 x16_1).f0) < 0) = true := decide_eq_true c10
                clear c10
                simp only [Option.some.injEq, Prod.mk.injEq] at H
                obtain ⟨rfl, rfl⟩ := H
                have p342 : 0 ≤ (x16_1 : Int) := of_decide_eq_true (by first | (with_reducible assumption) | assumption)
                have q342 : x16_1 < (l1.length : Int) := of_decide_eq_true (by first | (with_reducible assumption) | assumption)
                obtain ⟨ad342, e342, hx342_0, hx342_1, hx342_2, hx342_3⟩ := at_T51 HR1.out x16_1 p342 q342
                cases e342
                replace hx342_0 := (HB.out.cell (World.block_lt_of_cell? w _ hx342_0)).trans hx342_0
                replace hx342_1 := (HB.out.cell (World.block_lt_of_cell? w _ hx342_1)).trans hx342_1
                replace hx342_2 := (HB.out.cell (World.block_lt_of_cell? w _ hx342_2)).trans hx342_2
                replace hx342_3 := (HB.out.cell (World.block_lt_of_cell? w _ hx342_3)).trans hx342_3
                replace p342 := eq_true p342
                replace q342 := eq_true q342
                go_wp2_with (first | ((with_reducible refine gate_dst (N := 8) rfl ?_); refine box_event ?hg (N := 8) ?hd (cs := #[.int .i64 0, .int .i64 0, .int .u8 0, .int .u8 0]) (t := 51) ?hr ?_; (case hd => rfl); (case hg => rfl); (case hr => first | (go_simp; done) | (go_simp; rfl)); intro gb343 hg w11 hbox hb; have n0_ := Aside0.mk (Kd.R_below (by (with_reducible repeat (first | apply Kd.R_alloc | apply Kd.R_drewN | apply Kd.R_drew)); exact HO_6.out) hb); have n1_ := Aside0.mk (below_step (by repeat (first | (with_reducible first | exact HB.out | apply below_alloc | apply pw_below_drewN | apply below_drew1) | exact HB.out)) hb); have n2_ := Aside0.mk (hbox); have n3_ := Aside0.mk ((by rw [hg]; exact (below_size (by repeat (first | (with_reducible first | exact HB.out | apply below_alloc | apply pw_below_drewN | apply below_drew1) | exact HB.out))) : w.heap.size ≤ gb343)); have n4_ := Aside0.mk ((by rw [hg]; exact (below_size (by repeat (first | (with_reducible first | exact HB.out | apply below_alloc | apply pw_below_drewN | apply below_drew1) | exact HB.out))) : w.heap.size ≤ gb343)); clear HO_6; clear HB; have HO_6 := n0_; have HB := n1_; have BK343 := n2_; have GW343 := n3_; have GE343 := n4_; clear n0_ n1_ n2_ n3_ n4_; clear hb hbox hg; have hcz12_0 : w11.cell? ⟨gb343, 0, none⟩ = some (.int .i64 0) := (blk_cell BK343.out 0).trans rfl; have hcz12_1 : w11.cell? ⟨gb343, 1, none⟩ = some (.int .i64 0) := (blk_cell BK343.out 1).trans rfl; have hcz12_2 : w11.cell? ⟨gb343, 2, none⟩ = some (.int .u8 0) := (blk_cell BK343.out 2).trans rfl; have hcz12_3 : w11.cell? ⟨gb343, 3, none⟩ = some (.int .u8 0) := (blk_cell BK343.out 3).trans rfl; have hfz12_0 := blk_frozen BK343.out 0; have hfz12_1 := blk_frozen BK343.out 1; have hfz12_2 := blk_frozen BK343.out 2; have hfz12_3 := blk_frozen BK343.out 3))
                repeat (go_quiet (first | ((with_reducible refine gate_dst (N := 8) rfl ?_); refine box_event ?hg (N := 8) ?hd (cs := #[.int .i64 0, .int .i64 0, .int .u8 0, .int .u8 0]) (t := 51) ?hr ?_; (case hd => rfl); (case hg => rfl); (case hr => first | (go_simp; done) | (go_simp; rfl)); intro gb343 hg w11 hbox hb; have n0_ := Aside0.mk (Kd.R_below (by (with_reducible repeat (first | apply Kd.R_alloc | apply Kd.R_drewN | apply Kd.R_drew)); exact HO_6.out) hb); have n1_ := Aside0.mk (below_step (by repeat (first | (with_reducible first | exact HB.out | apply below_alloc | apply pw_below_drewN | apply below_drew1) | exact HB.out)) hb); have n2_ := Aside0.mk (hbox); have n3_ := Aside0.mk ((by rw [hg]; exact (below_size (by repeat (first | (with_reducible first | exact HB.out | apply below_alloc | apply pw_below_drewN | apply below_drew1) | exact HB.out))) : w.heap.size ≤ gb343)); have n4_ := Aside0.mk ((by rw [hg]; exact (below_size (by repeat (first | (with_reducible first | exact HB.out | apply below_alloc | apply pw_below_drewN | apply below_drew1) | exact HB.out))) : w.heap.size ≤ gb343)); clear HO_6; clear HB; have HO_6 := n0_; have HB := n1_; have BK343 := n2_; have GW343 := n3_; have GE343 := n4_; clear n0_ n1_ n2_ n3_ n4_; clear hb hbox hg; have hcz12_0 : w11.cell? ⟨gb343, 0, none⟩ = some (.int .i64 0) := (blk_cell BK343.out 0).trans rfl; have hcz12_1 : w11.cell? ⟨gb343, 1, none⟩ = some (.int .i64 0) := (blk_cell BK343.out 1).trans rfl; have hcz12_2 : w11.cell? ⟨gb343, 2, none⟩ = some (.int .u8 0) := (blk_cell BK343.out 2).trans rfl; have hcz12_3 : w11.cell? ⟨gb343, 3, none⟩ = some (.int .u8 0) := (blk_cell BK343.out 3).trans rfl; have hfz12_0 := blk_frozen BK343.out 0; have hfz12_1 := blk_frozen BK343.out 1; have hfz12_2 := blk_frozen BK343.out 2; have hfz12_3 := blk_frozen BK343.out 3)); try go_wp2_with (first | ((with_reducible refine gate_dst (N := 8) rfl ?_); refine box_event ?hg (N := 8) ?hd (cs := #[.int .i64 0, .int .i64 0, .int .u8 0, .int .u8 0]) (t := 51) ?hr ?_; (case hd => rfl); (case hg => rfl); (case hr => first | (go_simp; done) | (go_simp; rfl)); intro gb343 hg w11 hbox hb; have n0_ := Aside0.mk (Kd.R_below (by (with_reducible repeat (first | apply Kd.R_alloc | apply Kd.R_drewN | apply Kd.R_drew)); exact HO_6.out) hb); have n1_ := Aside0.mk (below_step (by repeat (first | (with_reducible first | exact HB.out | apply below_alloc | apply pw_below_drewN | apply below_drew1) | exact HB.out)) hb); have n2_ := Aside0.mk (hbox); have n3_ := Aside0.mk ((by rw [hg]; exact (below_size (by repeat (first | (with_reducible first | exact HB.out | apply below_alloc | apply pw_below_drewN | apply below_drew1) | exact HB.out))) : w.heap.size ≤ gb343)); have n4_ := Aside0.mk ((by rw [hg]; exact (below_size (by repeat (first | (with_reducible first | exact HB.out | apply below_alloc | apply pw_below_drewN | apply below_drew1) | exact HB.out))) : w.heap.size ≤ gb343)); clear HO_6; clear HB; have HO_6 := n0_; have HB := n1_; have BK343 := n2_; have GW343 := n3_; have GE343 := n4_; clear n0_ n1_ n2_ n3_ n4_; clear hb hbox hg; have hcz12_0 : w11.cell? ⟨gb343, 0, none⟩ = some (.int .i64 0) := (blk_cell BK343.out 0).trans rfl; have hcz12_1 : w11.cell? ⟨gb343, 1, none⟩ = some (.int .i64 0) := (blk_cell BK343.out 1).trans rfl; have hcz12_2 : w11.cell? ⟨gb343, 2, none⟩ = some (.int .u8 0) := (blk_cell BK343.out 2).trans rfl; have hcz12_3 : w11.cell? ⟨gb343, 3, none⟩ = some (.int .u8 0) := (blk_cell BK343.out 3).trans rfl; have hfz12_0 := blk_frozen BK343.out 0; have hfz12_1 := blk_frozen BK343.out 1; have hfz12_2 := blk_frozen BK343.out 2; have hfz12_3 := blk_frozen BK343.out 3)))
                go_ret2
                exact ⟨_, by first | rfl | (simp [errW_none, errW_some] <;> rfl) | (simp [*, errW_none, errW_some] <;> rfl), by first | exact Kd.R_nil _ _ _ _ _ | exact Kd.N_nil _ _ _ _ _ | exact Kd.V_nil _ _ _ _ _ | exact Kd.Q_nil _ _ _ _ _ | exact Kd.S_nil _ _ _ _ _, by repeat (first | (with_reducible first | exact HB.out | apply below_alloc | apply pw_below_drewN | apply below_drew1 | refine below_set ?_ GE343.out) | exact HB.out)⟩
              · rw [if_neg c10] at H
                have c10b0 : decide (((rd_T51 l1 x16_1).f0) < 0) = false := decide_eq_false c10
                clear c10
                by_cases c13 : ((rd_T51 l1 x16_1).f0) ≥ 64
                · rw [if_pos c13] at H
                  have c13b0 : decide (64 ≤ ((rd_T51 l1 x16_1).f0)) = true := decide_eq_true c13
                  clear c13
                  simp only [Option.some.injEq, Prod.mk.injEq] at H
                  obtain ⟨rfl, rfl⟩ := H
                  have p342 : 0 ≤ (x16_1 : Int) := of_decide_eq_true (by first | (with_reducible assumption) | assumption)
                  have q342 : x16_1 < (l1.length : Int) := of_decide_eq_true (by first | (with_reducible assumption) | assumption)
                  obtain ⟨ad342, e342, hx342_0, hx342_1, hx342_2, hx342_3⟩ := at_T51 HR1.out x16_1 p342 q342
                  cases e342
                  replace hx342_0 := (HB.out.cell (World.block_lt_of_cell? w _ hx342_0)).trans hx342_0
                  replace hx342_1 := (HB.out.cell (World.block_lt_of_cell? w _ hx342_1)).trans hx342_1
                  replace hx342_2 := (HB.out.cell (World.block_lt_of_cell? w _ hx342_2)).trans hx342_2
                  replace hx342_3 := (HB.out.cell (World.block_lt_of_cell? w _ hx342_3)).trans hx342_3
                  replace p342 := eq_true p342
                  replace q342 := eq_true q342
                  go_wp2_with (first | ((with_reducible refine gate_dst (N := 8) rfl ?_); refine box_event ?hg (N := 8) ?hd (cs := #[.int .i64 0, .int .i64 0, .int .u8 0, .int .u8 0]) (t := 51) ?hr ?_; (case hd => rfl); (case hg => rfl); (case hr => first | (go_simp; done) | (go_simp; rfl)); intro gb343 hg w14 hbox hb; have n0_ := Aside0.mk (Kd.R_below (by (with_reducible repeat (first | apply Kd.R_alloc | apply Kd.R_drewN | apply Kd.R_drew)); exact HO_6.out) hb); have n1_ := Aside0.mk (below_step (by repeat (first | (with_reducible first | exact HB.out | apply below_alloc | apply pw_below_drewN | apply below_drew1) | exact HB.out)) hb); have n2_ := Aside0.mk (hbox); have n3_ := Aside0.mk ((by rw [hg]; exact (below_size (by repeat (first | (with_reducible first | exact HB.out | apply below_alloc | apply pw_below_drewN | apply below_drew1) | exact HB.out))) : w.heap.size ≤ gb343)); have n4_ := Aside0.mk ((by rw [hg]; exact (below_size (by repeat (first | (with_reducible first | exact HB.out | apply below_alloc | apply pw_below_drewN | apply below_drew1) | exact HB.out))) : w.heap.size ≤ gb343)); clear HO_6; clear HB; have HO_6 := n0_; have HB := n1_; have BK343 := n2_; have GW343 := n3_; have GE343 := n4_; clear n0_ n1_ n2_ n3_ n4_; clear hb hbox hg; have hcz15_0 : w14.cell? ⟨gb343, 0, none⟩ = some (.int .i64 0) := (blk_cell BK343.out 0).trans rfl; have hcz15_1 : w14.cell? ⟨gb343, 1, none⟩ = some (.int .i64 0) := (blk_cell BK343.out 1).trans rfl; have hcz15_2 : w14.cell? ⟨gb343, 2, none⟩ = some (.int .u8 0) := (blk_cell BK343.out 2).trans rfl; have hcz15_3 : w14.cell? ⟨gb343, 3, none⟩ = some (.int .u8 0) := (blk_cell BK343.out 3).trans rfl; have hfz15_0 := blk_frozen BK343.out 0; have hfz15_1 := blk_frozen BK343.out 1; have hfz15_2 := blk_frozen BK343.out 2; have hfz15_3 := blk_frozen BK343.out 3))
                  repeat (go_quiet (first | ((with_reducible refine gate_dst (N := 8) rfl ?_); refine box_event ?hg (N := 8) ?hd (cs := #[.int .i64 0, .int .i64 0, .int .u8 0, .int .u8 0]) (t := 51) ?hr ?_; (case hd => rfl); (case hg => rfl); (case hr => first | (go_simp; done) | (go_simp; rfl)); intro gb343 hg w14 hbox hb; have n0_ := Aside0.mk (Kd.R_below (by (with_reducible repeat (first | apply Kd.R_alloc | apply Kd.R_drewN | apply Kd.R_drew)); exact HO_6.out) hb); have n1_ := Aside0.mk (below_step (by repeat (first | (with_reducible first | exact HB.out | apply below_alloc | apply pw_below_drewN | apply below_drew1) | exact HB.out)) hb); have n2_ := Aside0.mk (hbox); have n3_ := Aside0.mk ((by rw [hg]; exact (below_size (by repeat (first | (with_reducible first | exact HB.out | apply below_alloc | apply pw_below_drewN | apply below_drew1) | exact HB.out))) : w.heap.size ≤ gb343)); have n4_ := Aside0.mk ((by rw [hg]; exact (below_size (by repeat (first | (with_reducible first | exact HB.out | apply below_alloc | apply pw_below_drewN | apply below_drew1) | exact HB.out))) : w.heap.size ≤ gb343)); clear HO_6; clear HB; have HO_6 := n0_; have HB := n1_; have BK343 := n2_; have GW343 := n3_; have GE343 := n4_; clear n0_ n1_ n2_ n3_ n4_; clear hb hbox hg; have hcz15_0 : w14.cell? ⟨gb343, 0, none⟩ = some (.int .i64 0) := (blk_cell BK343.out 0).trans rfl; have hcz15_1 : w14.cell? ⟨gb343, 1, none⟩ = some (.int .i64 0) := (blk_cell BK343.out 1).trans rfl; have hcz15_2 : w14.cell? ⟨gb343, 2, none⟩ = some (.int .u8 0) := (blk_cell BK343.out 2).trans rfl; have hcz15_3 : w14.cell? ⟨gb343, 3, none⟩ = some (.int .u8 0) := (blk_cell BK343.out 3).trans rfl; have hfz15_0 := blk_frozen BK343.out 0; have hfz15_1 := blk_frozen BK343.out 1; have hfz15_2 := blk_frozen BK343.out 2; have hfz15_3 := blk_frozen BK343.out 3)); try go_wp2_with (first | ((with_reducible refine gate_dst (N := 8) rfl ?_); refine box_event ?hg (N := 8) ?hd (cs := #[.int .i64 0, .int .i64 0, .int .u8 0, .int .u8 0]) (t := 51) ?hr ?_; (case hd => rfl); (case hg => rfl); (case hr => first | (go_simp; done) | (go_simp; rfl)); intro gb343 hg w14 hbox hb; have n0_ := Aside0.mk (Kd.R_below (by (with_reducible repeat (first | apply Kd.R_alloc | apply Kd.R_drewN | apply Kd.R_drew)); exact HO_6.out) hb); have n1_ := Aside0.mk (below_step (by repeat (first | (with_reducible first | exact HB.out | apply below_alloc | apply pw_below_drewN | apply below_drew1) | exact HB.out)) hb); have n2_ := Aside0.mk (hbox); have n3_ := Aside0.mk ((by rw [hg]; exact (below_size (by repeat (first | (with_reducible first | exact HB.out | apply below_alloc | apply pw_below_drewN | apply below_drew1) | exact HB.out))) : w.heap.size ≤ gb343)); have n4_ := Aside0.mk ((by rw [hg]; exact (below_size (by repeat (first | (with_reducible first | exact HB.out | apply below_alloc | apply pw_below_drewN | apply below_drew1) | exact HB.out))) : w.heap.size ≤ gb343)); clear HO_6; clear HB; have HO_6 := n0_; have HB := n1_; have BK343 := n2_; have GW343 := n3_; have GE343 := n4_; clear n0_ n1_ n2_ n3_ n4_; clear hb hbox hg; have hcz15_0 : w14.cell? ⟨gb343, 0, none⟩ = some (.int .i64 0) := (blk_cell BK343.out 0).trans rfl; have hcz15_1 : w14.cell? ⟨gb343, 1, none⟩ = some (.int .i64 0) := (blk_cell BK343.out 1).trans rfl; have hcz15_2 : w14.cell? ⟨gb343, 2, none⟩ = some (.int .u8 0) := (blk_cell BK343.out 2).trans rfl; have hcz15_3 : w14.cell? ⟨gb343, 3, none⟩ = some (.int .u8 0) := (blk_cell BK343.out 3).trans rfl; have hfz15_0 := blk_frozen BK343.out 0; have hfz15_1 := blk_frozen BK343.out 1; have hfz15_2 := blk_frozen BK343.out 2; have hfz15_3 := blk_frozen BK343.out 3)))
                  go_ret2
                  exact ⟨_, by first | rfl | (simp [errW_none, errW_some] <;> rfl) | (simp [*, errW_none, errW_some] <;> rfl), by first | exact Kd.R_nil _ _ _ _ _ | exact Kd.N_nil _ _ _ _ _ | exact Kd.V_nil _ _ _ _ _ | exact Kd.Q_nil _ _ _ _ _ | exact Kd.S_nil _ _ _ _ _, by repeat (first | (with_reducible first | exact HB.out | apply below_alloc | apply pw_below_drewN | apply below_drew1 | refine below_set ?_ GE343.out) | exact HB.out)⟩
                · rw [if_neg c13] at H
                  have c13b0 : decide (64 ≤ ((rd_T51 l1 x16_1).f0)) = false := decide_eq_false c13
                  clear c13
                  by_cases c16 : ((rd_T51 l1 x16_1).f1) < 0
                  · rw [if_pos c16] at H
                    have c16b0 : decide (((rd_T51 l1 x16_1).f1) < 0) = true := decide_eq_true c16
                    clear c16
                    simp only [Option.some.injEq, Prod.mk.injEq] at H
                    obtain ⟨rfl, rfl⟩ := H
                    have p342 : 0 ≤ (x16_1 : Int) := of_decide_eq_true (by first | (with_reducible assumption) | assumption)
                    have q342 : x16_1 < (l1.length : Int) := of_decide_eq_true (by first | (with_reducible assumption) | assumption)
                    obtain ⟨ad342, e342, hx342_0, hx342_1, hx342_2, hx342_3⟩ := at_T51 HR1.out x16_1 p342 q342
                    cases e342
                    replace hx342_0 := (HB.out.cell (World.block_lt_of_cell? w _ hx342_0)).trans hx342_0
                    replace hx342_1 := (HB.out.cell (World.block_lt_of_cell? w _ hx342_1)).trans hx342_1
                    replace hx342_2 := (HB.out.cell (World.block_lt_of_cell? w _ hx342_2)).trans hx342_2
                    replace hx342_3 := (HB.out.cell (World.block_lt_of_cell? w _ hx342_3)).trans hx342_3
                    replace p342 := eq_true p342
                    replace q342 := eq_true q342
                    go_wp2_with (first | ((with_reducible refine gate_dst (N := 8) rfl ?_); refine box_event ?hg (N := 8) ?hd (cs := #[.int .i64 0, .int .i64 0, .int .u8 0, .int .u8 0]) (t := 51) ?hr ?_; (case hd => rfl); (case hg => rfl); (case hr => first | (go_simp; done) | (go_simp; rfl)); intro gb343 hg w17 hbox hb; have n0_ := Aside0.mk (Kd.R_below (by (with_reducible repeat (first | apply Kd.R_alloc | apply Kd.R_drewN | apply Kd.R_drew)); exact HO_6.out) hb); have n1_ := Aside0.mk (below_step (by repeat (first | (with_reducible first | exact HB.out | apply below_alloc | apply pw_below_drewN | apply below_drew1) | exact HB.out)) hb); have n2_ := Aside0.mk (hbox); have n3_ := Aside0.mk ((by rw [hg]; exact (below_size (by repeat (first | (with_reducible first | exact HB.out | apply below_alloc | apply pw_below_drewN | apply below_drew1) | exact HB.out))) : w.heap.size ≤ gb343)); have n4_ := Aside0.mk ((by rw [hg]; exact (below_size (by repeat (first | (with_reducible first | exact HB.out | apply below_alloc | apply pw_below_drewN | apply below_drew1) | exact HB.out))) : w.heap.size ≤ gb343)); clear HO_6; clear HB; have HO_6 := n0_; have HB := n1_; have BK343 := n2_; have GW343 := n3_; have GE343 := n4_; clear n0_ n1_ n2_ n3_ n4_; clear hb hbox hg; have hcz18_0 : w17.cell? ⟨gb343, 0, none⟩ = some (.int .i64 0) := (blk_cell BK343.out 0).trans rfl; have hcz18_1 : w17.cell? ⟨gb343, 1, none⟩ = some (.int .i64 0) := (blk_cell BK343.out 1).trans rfl; have hcz18_2 : w17.cell? ⟨gb343, 2, none⟩ = some (.int .u8 0) := (blk_cell BK343.out 2).trans rfl; have hcz18_3 : w17.cell? ⟨gb343, 3, none⟩ = some (.int .u8 0) := (blk_cell BK343.out 3).trans rfl; have hfz18_0 := blk_frozen BK343.out 0; have hfz18_1 := blk_frozen BK343.out 1; have hfz18_2 := blk_frozen BK343.out 2; have hfz18_3 := blk_frozen BK343.out 3))
                    repeat (go_quiet (first | ((with_reducible refine gate_dst (N := 8) rfl ?_); refine box_event ?hg (N := 8) ?hd (cs := #[.int .i64 0, .int .i64 0, .int .u8 0, .int .u8 0]) (t := 51) ?hr ?_; (case hd => rfl); (case hg => rfl); (case hr => first | (go_simp; done) | (go_simp; rfl)); intro gb343 hg w17 hbox hb; have n0_ := Aside0.mk (Kd.R_below (by (with_reducible repeat (first | apply Kd.R_alloc | apply Kd.R_drewN | apply Kd.R_drew)); exact HO_6.out) hb); have n1_ := Aside0.mk (below_step (by repeat (first | (with_reducible first | exact HB.out | apply below_alloc | apply pw_below_drewN | apply below_drew1) | exact HB.out)) hb); have n2_ := Aside0.mk (hbox); have n3_ := Aside0.mk ((by rw [hg]; exact (below_size (by repeat (first | (with_reducible first | exact HB.out | apply below_alloc | apply pw_below_drewN | apply below_drew1) | exact HB.out))) : w.heap.size ≤ gb343)); have n4_ := Aside0.mk ((by rw [hg]; exact (below_size (by repeat (first | (with_reducible first | exact HB.out | apply below_alloc | apply pw_below_drewN | apply below_drew1) | exact HB.out))) : w.heap.size ≤ gb343)); clear HO_6; clear HB; have HO_6 := n0_; have HB := n1_; have BK343 := n2_; have GW343 := n3_; have GE343 := n4_; clear n0_ n1_ n2_ n3_ n4_; clear hb hbox hg; have hcz18_0 : w17.cell? ⟨gb343, 0, none⟩ = some (.int .i64 0) := (blk_cell BK343.out 0).trans rfl; have hcz18_1 : w17.cell? ⟨gb343, 1, none⟩ = some (.int .i64 0) := (blk_cell BK343.out 1).trans rfl; have hcz18_2 : w17.cell? ⟨gb343, 2, none⟩ = some (.int .u8 0) := (blk_cell BK343.out 2).trans rfl; have hcz18_3 : w17.cell? ⟨gb343, 3, none⟩ = some (.int .u8 0) := (blk_cell BK343.out 3).trans rfl; have hfz18_0 := blk_frozen BK343.out 0; have hfz18_1 := blk_frozen BK343.out 1; have hfz18_2 := blk_frozen BK343.out 2; have hfz18_3 := blk_frozen BK343.out 3)); try go_wp2_with (first | ((with_reducible refine gate_dst (N := 8) rfl ?_); refine box_event ?hg (N := 8) ?hd (cs := #[.int .i64 0, .int .i64 0, .int .u8 0, .int .u8 0]) (t := 51) ?hr ?_; (case hd => rfl); (case hg => rfl); (case hr => first | (go_simp; done) | (go_simp; rfl)); intro gb343 hg w17 hbox hb; have n0_ := Aside0.mk (Kd.R_below (by (with_reducible repeat (first | apply Kd.R_alloc | apply Kd.R_drewN | apply Kd.R_drew)); exact HO_6.out) hb); have n1_ := Aside0.mk (below_step (by repeat (first | (with_reducible first | exact HB.out | apply below_alloc | apply pw_below_drewN | apply below_drew1) | exact HB.out)) hb); have n2_ := Aside0.mk (hbox); have n3_ := Aside0.mk ((by rw [hg]; exact (below_size (by repeat (first | (with_reducible first | exact HB.out | apply below_alloc | apply pw_below_drewN | apply below_drew1) | exact HB.out))) : w.heap.size ≤ gb343)); have n4_ := Aside0.mk ((by rw [hg]; exact (below_size (by repeat (first | (with_reducible first | exact HB.out | apply below_alloc | apply pw_below_drewN | apply below_drew1) | exact HB.out))) : w.heap.size ≤ gb343)); clear HO_6; clear HB; have HO_6 := n0_; have HB := n1_; have BK343 := n2_; have GW343 := n3_; have GE343 := n4_; clear n0_ n1_ n2_ n3_ n4_; clear hb hbox hg; have hcz18_0 : w17.cell? ⟨gb343, 0, none⟩ = some (.int .i64 0) := (blk_cell BK343.out 0).trans rfl; have hcz18_1 : w17.cell? ⟨gb343, 1, none⟩ = some (.int .i64 0) := (blk_cell BK343.out 1).trans rfl; have hcz18_2 : w17.cell? ⟨gb343, 2, none⟩ = some (.int .u8 0) := (blk_cell BK343.out 2).trans rfl; have hcz18_3 : w17.cell? ⟨gb343, 3, none⟩ = some (.int .u8 0) := (blk_cell BK343.out 3).trans rfl; have hfz18_0 := blk_frozen BK343.out 0; have hfz18_1 := blk_frozen BK343.out 1; have hfz18_2 := blk_frozen BK343.out 2; have hfz18_3 := blk_frozen BK343.out 3)))
                    go_ret2
                    exact ⟨_, by first | rfl | (simp [errW_none, errW_some] <;> rfl) | (simp [*, errW_none, errW_some] <;> rfl), by first | exact Kd.R_nil _ _ _ _ _ | exact Kd.N_nil _ _ _ _ _ | exact Kd.V_nil _ _ _ _ _ | exact Kd.Q_nil _ _ _ _ _ | exact Kd.S_nil _ _ _ _ _, by repeat (first | (with_reducible first | exact HB.out | apply below_alloc | apply pw_below_drewN | apply below_drew1 | refine below_set ?_ GE343.out) | exact HB.out)⟩
                  · rw [if_neg c16] at H
                    have c16b0 : decide (((rd_T51 l1 x16_1).f1) < 0) = false := decide_eq_false c16
                    clear c16
                    by_cases c19 : ((rd_T51 l1 x16_1).f1) ≥ 48
                    · rw [if_pos c19] at H
                      have c19b0 : decide (48 ≤ ((rd_T51 l1 x16_1).f1)) = true := decide_eq_true c19
                      clear c19
                      simp only [Option.some.injEq, Prod.mk.injEq] at H
                      obtain ⟨rfl, rfl⟩ := H
                      have p342 : 0 ≤ (x16_1 : Int) := of_decide_eq_true (by first | (with_reducible assumption) | assumption)
                      have q342 : x16_1 < (l1.length : Int) := of_decide_eq_true (by first | (with_reducible assumption) | assumption)
                      obtain ⟨ad342, e342, hx342_0, hx342_1, hx342_2, hx342_3⟩ := at_T51 HR1.out x16_1 p342 q342
                      cases e342
                      replace hx342_0 := (HB.out.cell (World.block_lt_of_cell? w _ hx342_0)).trans hx342_0
                      replace hx342_1 := (HB.out.cell (World.block_lt_of_cell? w _ hx342_1)).trans hx342_1
                      replace hx342_2 := (HB.out.cell (World.block_lt_of_cell? w _ hx342_2)).trans hx342_2
                      replace hx342_3 := (HB.out.cell (World.block_lt_of_cell? w _ hx342_3)).trans hx342_3
                      replace p342 := eq_true p342
                      replace q342 := eq_true q342
                      go_wp2_with (first | ((with_reducible refine gate_dst (N := 8) rfl ?_); refine box_event ?hg (N := 8) ?hd (cs := #[.int .i64 0, .int .i64 0, .int .u8 0, .int .u8 0]) (t := 51) ?hr ?_; (case hd => rfl); (case hg => rfl); (case hr => first | (go_simp; done) | (go_simp; rfl)); intro gb343 hg w20 hbox hb; have n0_ := Aside0.mk (Kd.R_below (by (with_reducible repeat (first | apply Kd.R_alloc | apply Kd.R_drewN | apply Kd.R_drew)); exact HO_6.out) hb); have n1_ := Aside0.mk (below_step (by repeat (first | (with_reducible first | exact HB.out | apply below_alloc | apply pw_below_drewN | apply below_drew1) | exact HB.out)) hb); have n2_ := Aside0.mk (hbox); have n3_ := Aside0.mk ((by rw [hg]; exact (below_size (by repeat (first | (with_reducible first | exact HB.out | apply below_alloc | apply pw_below_drewN | apply below_drew1) | exact HB.out))) : w.heap.size ≤ gb343)); have n4_ := Aside0.mk ((by rw [hg]; exact (below_size (by repeat (first | (with_reducible first | exact HB.out | apply below_alloc | apply pw_below_drewN | apply below_drew1) | exact HB.out))) : w.heap.size ≤ gb343)); clear HO_6; clear HB; have HO_6 := n0_; have HB := n1_; have BK343 := n2_; have GW343 := n3_; have GE343 := n4_; clear n0_ n1_ n2_ n3_ n4_; clear hb hbox hg; have hcz21_0 : w20.cell? ⟨gb343, 0, none⟩ = some (.int .i64 0) := (blk_cell BK343.out 0).trans rfl; have hcz21_1 : w20.cell? ⟨gb343, 1, none⟩ = some (.int .i64 0) := (blk_cell BK343.out 1).trans rfl; have hcz21_2 : w20.cell? ⟨gb343, 2, none⟩ = some (.int .u8 0) := (blk_cell BK343.out 2).trans rfl; have hcz21_3 : w20.cell? ⟨gb343, 3, none⟩ = some (.int .u8 0) := (blk_cell BK343.out 3).trans rfl; have hfz21_0 := blk_frozen BK343.out 0; have hfz21_1 := blk_frozen BK343.out 1; have hfz21_2 := blk_frozen BK343.out 2; have hfz21_3 := blk_frozen BK343.out 3))
                      repeat (go_quiet (first | ((with_reducible refine gate_dst (N := 8) rfl ?_); refine box_event ?hg (N := 8) ?hd (cs := #[.int .i64 0, .int .i64 0, .int .u8 0, .int .u8 0]) (t := 51) ?hr ?_; (case hd => rfl); (case hg => rfl); (case hr => first | (go_simp; done) | (go_simp; rfl)); intro gb343 hg w20 hbox hb; have n0_ := Aside0.mk (Kd.R_below (by (with_reducible repeat (first | apply Kd.R_alloc | apply Kd.R_drewN | apply Kd.R_drew)); exact HO_6.out) hb); have n1_ := Aside0.mk (below_step (by repeat (first | (with_reducible first | exact HB.out | apply below_alloc | apply pw_below_drewN | apply below_drew1) | exact HB.out)) hb); have n2_ := Aside0.mk (hbox); have n3_ := Aside0.mk ((by rw [hg]; exact (below_size (by repeat (first | (with_reducible first | exact HB.out | apply below_alloc | apply pw_below_drewN | apply below_drew1) | exact HB.out))) : w.heap.size ≤ gb343)); have n4_ := Aside0.mk ((by rw [hg]; exact (below_size (by repeat (first | (with_reducible first | exact HB.out | apply below_alloc | apply pw_below_drewN | apply below_drew1) | exact HB.out))) : w.heap.size ≤ gb343)); clear HO_6; clear HB; have HO_6 := n0_; have HB := n1_; have BK343 := n2_; have GW343 := n3_; have GE343 := n4_; clear n0_ n1_ n2_ n3_ n4_; clear hb hbox hg; have hcz21_0 : w20.cell? ⟨gb343, 0, none⟩ = some (.int .i64 0) := (blk_cell BK343.out 0).trans rfl; have hcz21_1 : w20.cell? ⟨gb343, 1, none⟩ = some (.int .i64 0) := (blk_cell BK343.out 1).trans rfl; have hcz21_2 : w20.cell? ⟨gb343, 2, none⟩ = some (.int .u8 0) := (blk_cell BK343.out 2).trans rfl; have hcz21_3 : w20.cell? ⟨gb343, 3, none⟩ = some (.int .u8 0) := (blk_cell BK343.out 3).trans rfl; have hfz21_0 := blk_frozen BK343.out 0; have hfz21_1 := blk_frozen BK343.out 1; have hfz21_2 := blk_frozen BK343.out 2; have hfz21_3 := blk_frozen BK343.out 3)); try go_wp2_with (first | ((with_reducible refine gate_dst (N := 8) rfl ?_); refine box_event ?hg (N := 8) ?hd (cs := #[.int .i64 0, .int .i64 0, .int .u8 0, .int .u8 0]) (t := 51) ?hr ?_; (case hd => rfl); (case hg => rfl); (case hr => first | (go_simp; done) | (go_simp; rfl)); intro gb343 hg w20 hbox hb; have n0_ := Aside0.mk (Kd.R_below (by (with_reducible repeat (first | apply Kd.R_alloc | apply Kd.R_drewN | apply Kd.R_drew)); exact HO_6.out) hb); have n1_ := Aside0.mk (below_step (by repeat (first | (with_reducible first | exact HB.out | apply below_alloc | apply pw_below_drewN | apply below_drew1) | exact HB.out)) hb); have n2_ := Aside0.mk (hbox); have n3_ := Aside0.mk ((by rw [hg]; exact (below_size (by repeat (first | (with_reducible first | exact HB.out | apply below_alloc | apply pw_below_drewN | apply below_drew1) | exact HB.out))) : w.heap.size ≤ gb343)); have n4_ := Aside0.mk ((by rw [hg]; exact (below_size (by repeat (first | (with_reducible first | exact HB.out | apply below_alloc | apply pw_below_drewN | apply below_drew1) | exact HB.out))) : w.heap.size ≤ gb343)); clear HO_6; clear HB; have HO_6 := n0_; have HB := n1_; have BK343 := n2_; have GW343 := n3_; have GE343 := n4_; clear n0_ n1_ n2_ n3_ n4_; clear hb hbox hg; have hcz21_0 : w20.cell? ⟨gb343, 0, none⟩ = some (.int .i64 0) := (blk_cell BK343.out 0).trans rfl; have hcz21_1 : w20.cell? ⟨gb343, 1, none⟩ = some (.int .i64 0) := (blk_cell BK343.out 1).trans rfl; have hcz21_2 : w20.cell? ⟨gb343, 2, none⟩ = some (.int .u8 0) := (blk_cell BK343.out 2).trans rfl; have hcz21_3 : w20.cell? ⟨gb343, 3, none⟩ = some (.int .u8 0) := (blk_cell BK343.out 3).trans rfl; have hfz21_0 := blk_frozen BK343.out 0; have hfz21_1 := blk_frozen BK343.out 1; have hfz21_2 := blk_frozen BK343.out 2; have hfz21_3 := blk_frozen BK343.out 3)))
                      go_ret2
                      exact ⟨_, by first | rfl | (simp [errW_none, errW_some] <;> rfl) | (simp [*, errW_none, errW_some] <;> rfl), by first | exact Kd.R_nil _ _ _ _ _ | exact Kd.N_nil _ _ _ _ _ | exact Kd.V_nil _ _ _ _ _ | exact Kd.Q_nil _ _ _ _ _ | exact Kd.S_nil _ _ _ _ _, by repeat (first | (with_reducible first | exact HB.out | apply below_alloc | apply pw_below_drewN | apply below_drew1 | refine below_set ?_ GE343.out) | exact HB.out)⟩
                    · rw [if_neg c19] at H
                      have c19b0 : decide (48 ≤ ((rd_T51 l1 x16_1).f1)) = false := decide_eq_false c19
                      clear c19
                      obtain ⟨ji22, hji22⟩ : ∃ j_ : Int, (wrap64 ((wrap64 (((rd_T51 l1 x16_1).f1) * 64)) + ((rd_T51 l1 x16_1).f0))) = j_ := ⟨_, rfl⟩
                      replace H : (if 0 ≤ (ji22) then (if (ji22) < (x6_1.length : Int) then (if (rd x6_1 (ji22)) = ((rd_T51 l1 x16_1).f2) then (shot_Apply.l0 k1 (x6_1.set ((ji22) : Int).toNat ((rd_T51 l1 x16_1).f3)) l1 (l1.length : Int) (wrap64 (x16_1 + 1))) else (some (([] : List Int), 2))) else (none)) else (none)) = some (r1, r2) := by first | (rw [hji22] at H; exact H) | (simp only [hji22] at H ⊢; exact H)
                      have hji22w : (IntKind.i64.wrap ((wrap64 (((rd_T51 l1 x16_1).f1) * 64)) + ((rd_T51 l1 x16_1).f0))) = ji22 := (i64_w _).trans hji22
                      have hji22ww : IntKind.i64.wrap (IntKind.i64.wrap (((rd_T51 l1 x16_1).f1) * 64) + ((rd_T51 l1 x16_1).f0)) = ji22 := by rw [i64_w, i64_w]; exact hji22
                      by_cases c23 : 0 ≤ (ji22)
                      · rw [if_pos c23] at H
                        have c23b0 : decide (0 ≤ (ji22)) = true := decide_eq_true c23
                        clear c23
                        by_cases c24 : (ji22) < (x6_1.length : Int)
                        · rw [if_pos c24] at H
                          have c24b0 : decide ((ji22) < (x6_1.length : Int)) = true := decide_eq_true c24
                          clear c24
                          by_cases c25 : (rd x6_1 (ji22)) = ((rd_T51 l1 x16_1).f2)
                          · rw [if_pos c25] at H
                            have c25b0 : ((rd x6_1 (ji22)) == ((rd_T51 l1 x16_1).f2)) = true := beq_iff_eq.mpr c25
                            have c25b1 : ((rd x6_1 (ji22)) != ((rd_T51 l1 x16_1).f2)) = false := bne_eq_false_iff_eq.mpr c25
                            clear c25
                            obtain ⟨y345, hy345⟩ : ∃ y_ : List Int, y_ = (x6_1.set ((ji22) : Int).toNat ((rd_T51 l1 x16_1).f3)) := ⟨_, rfl⟩
                            replace H : (shot_Apply.l0 k1 y345 l1 (l1.length : Int) (wrap64 (x16_1 + 1))) = some (r1, r2) := by first | (rw [hy345]; with_reducible exact H) | (have H2_ := (Option.bind_some _ _).symm.trans H; rw [hy345]; with_reducible exact H2_) | (have H2_ := (Option.bind_some _ _).symm.trans H; with_reducible exact H2_) | with_reducible exact H | (rw [hy345]; exact H) | exact H
                            have Ny345 := Aside0.mk hy345
                            clear hy345
                            have H' := Aside0.mk H
                            clear H
                            have p342 : 0 ≤ (x16_1 : Int) := of_decide_eq_true (by first | (with_reducible assumption) | assumption)
                            have q342 : x16_1 < (l1.length : Int) := of_decide_eq_true (by first | (with_reducible assumption) | assumption)
                            obtain ⟨ad342, e342, hx342_0, hx342_1, hx342_2, hx342_3⟩ := at_T51 HR1.out x16_1 p342 q342
                            cases e342
                            replace hx342_0 := (HB.out.cell (World.block_lt_of_cell? w _ hx342_0)).trans hx342_0
                            replace hx342_1 := (HB.out.cell (World.block_lt_of_cell? w _ hx342_1)).trans hx342_1
                            replace hx342_2 := (HB.out.cell (World.block_lt_of_cell? w _ hx342_2)).trans hx342_2
                            replace hx342_3 := (HB.out.cell (World.block_lt_of_cell? w _ hx342_3)).trans hx342_3
                            replace p342 := eq_true p342
                            replace q342 := eq_true q342
                            go_wp2_with (first | ((with_reducible refine gate_dst (N := 8) rfl ?_); refine box_event ?hg (N := 8) ?hd (cs := #[.int .i64 0, .int .i64 0, .int .u8 0, .int .u8 0]) (t := 51) ?hr ?_; (case hd => rfl); (case hg => rfl); (case hr => first | (go_simp; done) | (go_simp; rfl)); intro gb343 hg w27 hbox hb; have n0_ := Aside0.mk (Kd.R_below (by (with_reducible repeat (first | apply Kd.R_alloc | apply Kd.R_drewN | apply Kd.R_drew)); exact HO_6.out) hb); have n1_ := Aside0.mk (below_step (by repeat (first | (with_reducible first | exact HB.out | apply below_alloc | apply pw_below_drewN | apply below_drew1) | exact HB.out)) hb); have n2_ := Aside0.mk (hbox); have n3_ := Aside0.mk ((by rw [hg]; exact (below_size (by repeat (first | (with_reducible first | exact HB.out | apply below_alloc | apply pw_below_drewN | apply below_drew1) | exact HB.out))) : w.heap.size ≤ gb343)); have n4_ := Aside0.mk ((by rw [hg]; exact (below_size (by repeat (first | (with_reducible first | exact HB.out | apply below_alloc | apply pw_below_drewN | apply below_drew1) | exact HB.out))) : w.heap.size ≤ gb343)); clear HO_6; clear HB; have HO_6 := n0_; have HB := n1_; have BK343 := n2_; have GW343 := n3_; have GE343 := n4_; clear n0_ n1_ n2_ n3_ n4_; clear hb hbox hg; have hcz28_0 : w27.cell? ⟨gb343, 0, none⟩ = some (.int .i64 0) := (blk_cell BK343.out 0).trans rfl; have hcz28_1 : w27.cell? ⟨gb343, 1, none⟩ = some (.int .i64 0) := (blk_cell BK343.out 1).trans rfl; have hcz28_2 : w27.cell? ⟨gb343, 2, none⟩ = some (.int .u8 0) := (blk_cell BK343.out 2).trans rfl; have hcz28_3 : w27.cell? ⟨gb343, 3, none⟩ = some (.int .u8 0) := (blk_cell BK343.out 3).trans rfl; have hfz28_0 := blk_frozen BK343.out 0; have hfz28_1 := blk_frozen BK343.out 1; have hfz28_2 := blk_frozen BK343.out 2; have hfz28_3 := blk_frozen BK343.out 3) | ((with_reducible refine gate_store (t := 51) (p := 8) rfl ?_); (try (rw [drewN_self w27]; generalize hq_ : World.drewN w27 _ = w27; have n0_ := Aside0.mk (Kd.R_at hq_ HO_6.out); have n1_ := Aside0.mk (blk_at hq_ BK343.out); have n2_ := Aside0.mk (below_at hq_ HB.out); clear hq_ HO_6 BK343 HB; have HO_6 := n0_; have BK343 := n1_; have HB := n2_; clear n0_ n1_ n2_)); refine store_event (t := 51) (p := 8) (v := ?vo_w29) (w1 := ((((w27.setCell ⟨gb343, 0, none⟩ (.int .i64 ((rd_T51 l1 x16_1).f0))).setCell ⟨gb343, 1, none⟩ (.int .i64 ((rd_T51 l1 x16_1).f1))).setCell ⟨gb343, 2, none⟩ (.int .u8 ((rd_T51 l1 x16_1).f2))).setCell ⟨gb343, 3, none⟩ (.int .u8 ((rd_T51 l1 x16_1).f3)))) ?hg ?ho ?hn ?hr ?_; (case ho => rfl); (case hg => rfl); (case hn => rfl); (case hr => first | (go_simp; done) | (go_simp; rfl)); intro w29 hw; have n0_ : Aside0 (Kd.R (Kd.int .u8) 5 w29 w.heap.size (fun _ => True) v340 x6_1) := ⟨(by rw [hw]; exact (by (with_reducible repeat (first | apply Kd.R_alloc | apply Kd.R_drewN | apply Kd.R_drew)); exact Kd.R_mono (Kd.R_far (p := ⟨gb343, 3, none⟩) (Kd.R_far (p := ⟨gb343, 2, none⟩) (Kd.R_far (p := ⟨gb343, 1, none⟩) (Kd.R_far (p := ⟨gb343, 0, none⟩) (Kd.R_types HO_6.out BK343.out (by decide)) (fun _ hk => hk.2) (.int .i64 ((rd_T51 l1 x16_1).f0))) (fun _ hk => hk.2) (.int .i64 ((rd_T51 l1 x16_1).f1))) (fun _ hk => hk.2) (.int .u8 ((rd_T51 l1 x16_1).f2))) (fun _ hk => hk.2) (.int .u8 ((rd_T51 l1 x16_1).f3))) (fun _ hk => trivial)))⟩; have n1_ : Aside0 (w29.heap[gb343]? = some (.cells #[.int .i64 ((rd_T51 l1 x16_1).f0), .int .i64 ((rd_T51 l1 x16_1).f1), .int .u8 ((rd_T51 l1 x16_1).f2), .int .u8 ((rd_T51 l1 x16_1).f3)] 51 (0, 0))) := ⟨(by rw [hw]; exact (by (with_reducible repeat (first | refine blk_drewN ?_ _ | refine blk_drew ?_ | refine blk_alloc ?_ _)); refine blk_put (cs := #[.int .i64 ((rd_T51 l1 x16_1).f0), .int .i64 ((rd_T51 l1 x16_1).f1), .int .u8 ((rd_T51 l1 x16_1).f2), .int .u8 0]) ?_ 3 _ rfl; (with_reducible repeat (first | refine blk_drewN ?_ _ | refine blk_drew ?_ | refine blk_alloc ?_ _)); refine blk_put (cs := #[.int .i64 ((rd_T51 l1 x16_1).f0), .int .i64 ((rd_T51 l1 x16_1).f1), .int .u8 0, .int .u8 0]) ?_ 2 _ rfl; (with_reducible repeat (first | refine blk_drewN ?_ _ | refine blk_drew ?_ | refine blk_alloc ?_ _)); refine blk_put (cs := #[.int .i64 ((rd_T51 l1 x16_1).f0), .int .i64 0, .int .u8 0, .int .u8 0]) ?_ 1 _ rfl; (with_reducible repeat (first | refine blk_drewN ?_ _ | refine blk_drew ?_ | refine blk_alloc ?_ _)); refine blk_put (cs := #[.int .i64 0, .int .i64 0, .int .u8 0, .int .u8 0]) ?_ 0 _ rfl; (with_reducible repeat (first | refine blk_drewN ?_ _ | refine blk_drew ?_ | refine blk_alloc ?_ _)); exact BK343.out))⟩; have n2_ : Aside0 (Below w.heap.size w w29) := ⟨(by rw [hw]; exact (by repeat (first | (with_reducible first | exact HB.out | apply below_alloc | apply pw_below_drewN | apply below_drew1 | refine below_set ?_ GE343.out) | exact HB.out)))⟩; clear hw; clear HO_6; clear BK343; clear HB; have HO_6 := n0_; have BK343 := n1_; have HB := n2_; clear n0_ n1_ n2_; have hcz30_0 : w29.cell? ⟨gb343, 0, none⟩ = some (.int .i64 ((rd_T51 l1 x16_1).f0)) := (blk_cell BK343.out 0).trans rfl; have hcz30_1 : w29.cell? ⟨gb343, 1, none⟩ = some (.int .i64 ((rd_T51 l1 x16_1).f1)) := (blk_cell BK343.out 1).trans rfl; have hcz30_2 : w29.cell? ⟨gb343, 2, none⟩ = some (.int .u8 ((rd_T51 l1 x16_1).f2)) := (blk_cell BK343.out 2).trans rfl; have hcz30_3 : w29.cell? ⟨gb343, 3, none⟩ = some (.int .u8 ((rd_T51 l1 x16_1).f3)) := (blk_cell BK343.out 3).trans rfl; have hfz30_0 := blk_frozen BK343.out 0; have hfz30_1 := blk_frozen BK343.out 1; have hfz30_2 := blk_frozen BK343.out 2; have hfz30_3 := blk_frozen BK343.out 3; obtain ⟨Ao31, co31, eo31⟩ := Kd.R_slice HO_6.out; subst eo31; have p344 : 0 ≤ ((ji22) : Int) := of_decide_eq_true (by first | (with_reducible assumption) | assumption); have q344 : (ji22) < (x6_1.length : Int) := of_decide_eq_true (by first | (with_reducible assumption) | assumption); obtain ⟨ad344, e344, hx344_0⟩ := Kd.at_int (Kd.R_reads' HO_6.out).2.2 (ji22) p344 q344; cases e344; replace p344 := eq_true p344; replace q344 := eq_true q344; have p26 : 0 ≤ ((ji22) : Int) := of_decide_eq_true (by first | (with_reducible assumption) | assumption); have q26 : ((ji22) : Int) < ((x6_1.length : Int) : Int) := of_decide_eq_true (by first | (with_reducible assumption) | assumption); obtain ⟨go26, co26, eo26, gb26, gl26, cl26, HG26⟩ := Kd.R_form HO_6.out (by omega); (first | cases eo26 | (injection eo26 with ea_ en_ ec_; (first | subst ea_ | (injection ea_ with ea_; subst ea_)); subst ec_; clear en_)); have GB26 := Aside0.mk gb26; have GG26 := Aside0.mk HG26; clear gb26 gl26 HG26; (first | simp only [add_plain] at hx344_0 | skip); obtain ⟨hx26_0, hf26_0⟩ := Kd.R_celln 0 HO_6.out ((ji22) : Int) p26 q26; replace p26 := eq_true p26; replace q26 := eq_true q26; obtain ⟨hy32_, hz32_⟩ := Kd.R_celln 0 HO_6.out ((ji22) : Int) (of_decide_eq_true (by first | (with_reducible assumption) | assumption)) (of_decide_eq_true (by first | (with_reducible assumption) | assumption)); have HP32 := Kd.R_putg HO_6.out ((ji22) : Int) ((rd_T51 l1 x16_1).f3)) | ((with_reducible refine gate_store (t := 5) (p := 61) rfl ?_); (try (rw [drewN_self w29]; generalize hq_ : World.drewN w29 _ = w29; have n0_ := Aside0.mk (Kd.R_at hq_ HO_6.out); have n1_ := Aside0.mk (blk_at hq_ BK343.out); have n2_ := Aside0.mk (below_at hq_ HB.out); clear hq_ HO_6 BK343 HB; have HO_6 := n0_; have BK343 := n1_; have HB := n2_; clear n0_ n1_ n2_; (try (obtain ⟨hy32_, hz32_⟩ := Kd.R_celln 0 HO_6.out ((ji22) : Int) (of_decide_eq_true (by first | (with_reducible assumption) | assumption)) (of_decide_eq_true (by first | (with_reducible assumption) | assumption)))); (try (have HP32 := Kd.R_putg HO_6.out ((ji22) : Int) ((rd_T51 l1 x16_1).f3))))); refine store_event (t := 5) (p := 61) (v := ?vo_w33) (w1 := (w29.setCell ⟨go26, ((ji22) : Int).toNat, none⟩ (.int .u8 ((rd_T51 l1 x16_1).f3)))) ?hg ?ho ?hn ?hr ?_; (case ho => rfl); (case hg => rfl); (case hn => rfl); (case hr => first | (go_simp; done) | (go_simp; rfl)); intro w33 hw; have hg : w29.grownBy w33 (some go26) := (by rw [hw]; exact HP32.2); have hp_ : Kd.R (Kd.int .u8) 5 w33 w.heap.size (fun _ => True) (.slice (some ⟨go26, 0, none⟩) x6_1.length co31) y345 := (by rw [hw, Ny345.out]; exact HP32.1); clear HP32; have n0_ := Aside0.mk (hp_); have n1_ := Aside0.mk (blk_grown (g := gb343) (o := .cells #[.int .i64 ((rd_T51 l1 x16_1).f0), .int .i64 ((rd_T51 l1 x16_1).f1), .int .u8 ((rd_T51 l1 x16_1).f2), .int .u8 ((rd_T51 l1 x16_1).f3)] 51 (0, 0)) (by (with_reducible repeat (first | refine blk_drewN ?_ _ | refine blk_drew ?_ | refine blk_alloc ?_ _)); exact BK343.out) hg (Kd.R_ne HO_6.out BK343.out (by decide))); have n2_ := Aside0.mk ((by rw [hw]; exact below_set (HB.out) GB26.out : Below w.heap.size w w33)); clear HO_6; clear BK343; clear HB; have HO_6 := n0_; have BK343 := n1_; have HB := n2_; clear n0_ n1_ n2_; clear hg hw hp_))
                            repeat (go_quiet (first | ((with_reducible refine gate_dst (N := 8) rfl ?_); refine box_event ?hg (N := 8) ?hd (cs := #[.int .i64 0, .int .i64 0, .int .u8 0, .int .u8 0]) (t := 51) ?hr ?_; (case hd => rfl); (case hg => rfl); (case hr => first | (go_simp; done) | (go_simp; rfl)); intro gb343 hg w27 hbox hb; have n0_ := Aside0.mk (Kd.R_below (by (with_reducible repeat (first | apply Kd.R_alloc | apply Kd.R_drewN | apply Kd.R_drew)); exact HO_6.out) hb); have n1_ := Aside0.mk (below_step (by repeat (first | (with_reducible first | exact HB.out | apply below_alloc | apply pw_below_drewN | apply below_drew1) | exact HB.out)) hb); have n2_ := Aside0.mk (hbox); have n3_ := Aside0.mk ((by rw [hg]; exact (below_size (by repeat (first | (with_reducible first | exact HB.out | apply below_alloc | apply pw_below_drewN | apply below_drew1) | exact HB.out))) : w.heap.size ≤ gb343)); have n4_ := Aside0.mk ((by rw [hg]; exact (below_size (by repeat (first | (with_reducible first | exact HB.out | apply below_alloc | apply pw_below_drewN | apply below_drew1) | exact HB.out))) : w.heap.size ≤ gb343)); clear HO_6; clear HB; have HO_6 := n0_; have HB := n1_; have BK343 := n2_; have GW343 := n3_; have GE343 := n4_; clear n0_ n1_ n2_ n3_ n4_; clear hb hbox hg; have hcz28_0 : w27.cell? ⟨gb343, 0, none⟩ = some (.int .i64 0) := (blk_cell BK343.out 0).trans rfl; have hcz28_1 : w27.cell? ⟨gb343, 1, none⟩ = some (.int .i64 0) := (blk_cell BK343.out 1).trans rfl; have hcz28_2 : w27.cell? ⟨gb343, 2, none⟩ = some (.int .u8 0) := (blk_cell BK343.out 2).trans rfl; have hcz28_3 : w27.cell? ⟨gb343, 3, none⟩ = some (.int .u8 0) := (blk_cell BK343.out 3).trans rfl; have hfz28_0 := blk_frozen BK343.out 0; have hfz28_1 := blk_frozen BK343.out 1; have hfz28_2 := blk_frozen BK343.out 2; have hfz28_3 := blk_frozen BK343.out 3) | ((with_reducible refine gate_store (t := 51) (p := 8) rfl ?_); (try (rw [drewN_self w27]; generalize hq_ : World.drewN w27 _ = w27; have n0_ := Aside0.mk (Kd.R_at hq_ HO_6.out); have n1_ := Aside0.mk (blk_at hq_ BK343.out); have n2_ := Aside0.mk (below_at hq_ HB.out); clear hq_ HO_6 BK343 HB; have HO_6 := n0_; have BK343 := n1_; have HB := n2_; clear n0_ n1_ n2_)); refine store_event (t := 51) (p := 8) (v := ?vo_w29) (w1 := ((((w27.setCell ⟨gb343, 0, none⟩ (.int .i64 ((rd_T51 l1 x16_1).f0))).setCell ⟨gb343, 1, none⟩ (.int .i64 ((rd_T51 l1 x16_1).f1))).setCell ⟨gb343, 2, none⟩ (.int .u8 ((rd_T51 l1 x16_1).f2))).setCell ⟨gb343, 3, none⟩ (.int .u8 ((rd_T51 l1 x16_1).f3)))) ?hg ?ho ?hn ?hr ?_; (case ho => rfl); (case hg => rfl); (case hn => rfl); (case hr => first | (go_simp; done) | (go_simp; rfl)); intro w29 hw; have n0_ : Aside0 (Kd.R (Kd.int .u8) 5 w29 w.heap.size (fun _ => True) v340 x6_1) := ⟨(by rw [hw]; exact (by (with_reducible repeat (first | apply Kd.R_alloc | apply Kd.R_drewN | apply Kd.R_drew)); exact Kd.R_mono (Kd.R_far (p := ⟨gb343, 3, none⟩) (Kd.R_far (p := ⟨gb343, 2, none⟩) (Kd.R_far (p := ⟨gb343, 1, none⟩) (Kd.R_far (p := ⟨gb343, 0, none⟩) (Kd.R_types HO_6.out BK343.out (by decide)) (fun _ hk => hk.2) (.int .i64 ((rd_T51 l1 x16_1).f0))) (fun _ hk => hk.2) (.int .i64 ((rd_T51 l1 x16_1).f1))) (fun _ hk => hk.2) (.int .u8 ((rd_T51 l1 x16_1).f2))) (fun _ hk => hk.2) (.int .u8 ((rd_T51 l1 x16_1).f3))) (fun _ hk => trivial)))⟩; have n1_ : Aside0 (w29.heap[gb343]? = some (.cells #[.int .i64 ((rd_T51 l1 x16_1).f0), .int .i64 ((rd_T51 l1 x16_1).f1), .int .u8 ((rd_T51 l1 x16_1).f2), .int .u8 ((rd_T51 l1 x16_1).f3)] 51 (0, 0))) := ⟨(by rw [hw]; exact (by (with_reducible repeat (first | refine blk_drewN ?_ _ | refine blk_drew ?_ | refine blk_alloc ?_ _)); refine blk_put (cs := #[.int .i64 ((rd_T51 l1 x16_1).f0), .int .i64 ((rd_T51 l1 x16_1).f1), .int .u8 ((rd_T51 l1 x16_1).f2), .int .u8 0]) ?_ 3 _ rfl; (with_reducible repeat (first | refine blk_drewN ?_ _ | refine blk_drew ?_ | refine blk_alloc ?_ _)); refine blk_put (cs := #[.int .i64 ((rd_T51 l1 x16_1).f0), .int .i64 ((rd_T51 l1 x16_1).f1), .int .u8 0, .int .u8 0]) ?_ 2 _ rfl; (with_reducible repeat (first | refine blk_drewN ?_ _ | refine blk_drew ?_ | refine blk_alloc ?_ _)); refine blk_put (cs := #[.int .i64 ((rd_T51 l1 x16_1).f0), .int .i64 0, .int .u8 0, .int .u8 0]) ?_ 1 _ rfl; (with_reducible repeat (first | refine blk_drewN ?_ _ | refine blk_drew ?_ | refine blk_alloc ?_ _)); refine blk_put (cs := #[.int .i64 0, .int .i64 0, .int .u8 0, .int .u8 0]) ?_ 0 _ rfl; (with_reducible repeat (first | refine blk_drewN ?_ _ | refine blk_drew ?_ | refine blk_alloc ?_ _)); exact BK343.out))⟩; have n2_ : Aside0 (Below w.heap.size w w29) := ⟨(by rw [hw]; exact (by repeat (first | (with_reducible first | exact HB.out | apply below_alloc | apply pw_below_drewN | apply below_drew1 | refine below_set ?_ GE343.out) | exact HB.out)))⟩; clear hw; clear HO_6; clear BK343; clear HB; have HO_6 := n0_; have BK343 := n1_; have HB := n2_; clear n0_ n1_ n2_; have hcz30_0 : w29.cell? ⟨gb343, 0, none⟩ = some (.int .i64 ((rd_T51 l1 x16_1).f0)) := (blk_cell BK343.out 0).trans rfl; have hcz30_1 : w29.cell? ⟨gb343, 1, none⟩ = some (.int .i64 ((rd_T51 l1 x16_1).f1)) := (blk_cell BK343.out 1).trans rfl; have hcz30_2 : w29.cell? ⟨gb343, 2, none⟩ = some (.int .u8 ((rd_T51 l1 x16_1).f2)) := (blk_cell BK343.out 2).trans rfl; have hcz30_3 : w29.cell? ⟨gb343, 3, none⟩ = some (.int .u8 ((rd_T51 l1 x16_1).f3)) := (blk_cell BK343.out 3).trans rfl; have hfz30_0 := blk_frozen BK343.out 0; have hfz30_1 := blk_frozen BK343.out 1; have hfz30_2 := blk_frozen BK343.out 2; have hfz30_3 := blk_frozen BK343.out 3; obtain ⟨Ao31, co31, eo31⟩ := Kd.R_slice HO_6.out; subst eo31; have p344 : 0 ≤ ((ji22) : Int) := of_decide_eq_true (by first | (with_reducible assumption) | assumption); have q344 : (ji22) < (x6_1.length : Int) := of_decide_eq_true (by first | (with_reducible assumption) | assumption); obtain ⟨ad344, e344, hx344_0⟩ := Kd.at_int (Kd.R_reads' HO_6.out).2.2 (ji22) p344 q344; cases e344; replace p344 := eq_true p344; replace q344 := eq_true q344; have p26 : 0 ≤ ((ji22) : Int) := of_decide_eq_true (by first | (with_reducible assumption) | assumption); have q26 : ((ji22) : Int) < ((x6_1.length : Int) : Int) := of_decide_eq_true (by first | (with_reducible assumption) | assumption); obtain ⟨go26, co26, eo26, gb26, gl26, cl26, HG26⟩ := Kd.R_form HO_6.out (by omega); (first | cases eo26 | (injection eo26 with ea_ en_ ec_; (first | subst ea_ | (injection ea_ with ea_; subst ea_)); subst ec_; clear en_)); have GB26 := Aside0.mk gb26; have GG26 := Aside0.mk HG26; clear gb26 gl26 HG26; (first | simp only [add_plain] at hx344_0 | skip); obtain ⟨hx26_0, hf26_0⟩ := Kd.R_celln 0 HO_6.out ((ji22) : Int) p26 q26; replace p26 := eq_true p26; replace q26 := eq_true q26; obtain ⟨hy32_, hz32_⟩ := Kd.R_celln 0 HO_6.out ((ji22) : Int) (of_decide_eq_true (by first | (with_reducible assumption) | assumption)) (of_decide_eq_true (by first | (with_reducible assumption) | assumption)); have HP32 := Kd.R_putg HO_6.out ((ji22) : Int) ((rd_T51 l1 x16_1).f3)) | ((with_reducible refine gate_store (t := 5) (p := 61) rfl ?_); (try (rw [drewN_self w29]; generalize hq_ : World.drewN w29 _ = w29; have n0_ := Aside0.mk (Kd.R_at hq_ HO_6.out); have n1_ := Aside0.mk (blk_at hq_ BK343.out); have n2_ := Aside0.mk (below_at hq_ HB.out); clear hq_ HO_6 BK343 HB; have HO_6 := n0_; have BK343 := n1_; have HB := n2_; clear n0_ n1_ n2_; (try (obtain ⟨hy32_, hz32_⟩ := Kd.R_celln 0 HO_6.out ((ji22) : Int) (of_decide_eq_true (by first | (with_reducible assumption) | assumption)) (of_decide_eq_true (by first | (with_reducible assumption) | assumption)))); (try (have HP32 := Kd.R_putg HO_6.out ((ji22) : Int) ((rd_T51 l1 x16_1).f3))))); refine store_event (t := 5) (p := 61) (v := ?vo_w33) (w1 := (w29.setCell ⟨go26, ((ji22) : Int).toNat, none⟩ (.int .u8 ((rd_T51 l1 x16_1).f3)))) ?hg ?ho ?hn ?hr ?_; (case ho => rfl); (case hg => rfl); (case hn => rfl); (case hr => first | (go_simp; done) | (go_simp; rfl)); intro w33 hw; have hg : w29.grownBy w33 (some go26) := (by rw [hw]; exact HP32.2); have hp_ : Kd.R (Kd.int .u8) 5 w33 w.heap.size (fun _ => True) (.slice (some ⟨go26, 0, none⟩) x6_1.length co31) y345 := (by rw [hw, Ny345.out]; exact HP32.1); clear HP32; have n0_ := Aside0.mk (hp_); have n1_ := Aside0.mk (blk_grown (g := gb343) (o := .cells #[.int .i64 ((rd_T51 l1 x16_1).f0), .int .i64 ((rd_T51 l1 x16_1).f1), .int .u8 ((rd_T51 l1 x16_1).f2), .int .u8 ((rd_T51 l1 x16_1).f3)] 51 (0, 0)) (by (with_reducible repeat (first | refine blk_drewN ?_ _ | refine blk_drew ?_ | refine blk_alloc ?_ _)); exact BK343.out) hg (Kd.R_ne HO_6.out BK343.out (by decide))); have n2_ := Aside0.mk ((by rw [hw]; exact below_set (HB.out) GB26.out : Below w.heap.size w w33)); clear HO_6; clear BK343; clear HB; have HO_6 := n0_; have BK343 := n1_; have HB := n2_; clear n0_ n1_ n2_; clear hg hw hp_)); try go_wp2_with (first | ((with_reducible refine gate_dst (N := 8) rfl ?_); refine box_event ?hg (N := 8) ?hd (cs := #[.int .i64 0, .int .i64 0, .int .u8 0, .int .u8 0]) (t := 51) ?hr ?_; (case hd => rfl); (case hg => rfl); (case hr => first | (go_simp; done) | (go_simp; rfl)); intro gb343 hg w27 hbox hb; have n0_ := Aside0.mk (Kd.R_below (by (with_reducible repeat (first | apply Kd.R_alloc | apply Kd.R_drewN | apply Kd.R_drew)); exact HO_6.out) hb); have n1_ := Aside0.mk (below_step (by repeat (first | (with_reducible first | exact HB.out | apply below_alloc | apply pw_below_drewN | apply below_drew1) | exact HB.out)) hb); have n2_ := Aside0.mk (hbox); have n3_ := Aside0.mk ((by rw [hg]; exact (below_size (by repeat (first | (with_reducible first | exact HB.out | apply below_alloc | apply pw_below_drewN | apply below_drew1) | exact HB.out))) : w.heap.size ≤ gb343)); have n4_ := Aside0.mk ((by rw [hg]; exact (below_size (by repeat (first | (with_reducible first | exact HB.out | apply below_alloc | apply pw_below_drewN | apply below_drew1) | exact HB.out))) : w.heap.size ≤ gb343)); clear HO_6; clear HB; have HO_6 := n0_; have HB := n1_; have BK343 := n2_; have GW343 := n3_; have GE343 := n4_; clear n0_ n1_ n2_ n3_ n4_; clear hb hbox hg; have hcz28_0 : w27.cell? ⟨gb343, 0, none⟩ = some (.int .i64 0) := (blk_cell BK343.out 0).trans rfl; have hcz28_1 : w27.cell? ⟨gb343, 1, none⟩ = some (.int .i64 0) := (blk_cell BK343.out 1).trans rfl; have hcz28_2 : w27.cell? ⟨gb343, 2, none⟩ = some (.int .u8 0) := (blk_cell BK343.out 2).trans rfl; have hcz28_3 : w27.cell? ⟨gb343, 3, none⟩ = some (.int .u8 0) := (blk_cell BK343.out 3).trans rfl; have hfz28_0 := blk_frozen BK343.out 0; have hfz28_1 := blk_frozen BK343.out 1; have hfz28_2 := blk_frozen BK343.out 2; have hfz28_3 := blk_frozen BK343.out 3) | ((with_reducible refine gate_store (t := 51) (p := 8) rfl ?_); (try (rw [drewN_self w27]; generalize hq_ : World.drewN w27 _ = w27; have n0_ := Aside0.mk (Kd.R_at hq_ HO_6.out); have n1_ := Aside0.mk (blk_at hq_ BK343.out); have n2_ := Aside0.mk (below_at hq_ HB.out); clear hq_ HO_6 BK343 HB; have HO_6 := n0_; have BK343 := n1_; have HB := n2_; clear n0_ n1_ n2_)); refine store_event (t := 51) (p := 8) (v := ?vo_w29) (w1 := ((((w27.setCell ⟨gb343, 0, none⟩ (.int .i64 ((rd_T51 l1 x16_1).f0))).setCell ⟨gb343, 1, none⟩ (.int .i64 ((rd_T51 l1 x16_1).f1))).setCell ⟨gb343, 2, none⟩ (.int .u8 ((rd_T51 l1 x16_1).f2))).setCell ⟨gb343, 3, none⟩ (.int .u8 ((rd_T51 l1 x16_1).f3)))) ?hg ?ho ?hn ?hr ?_; (case ho => rfl); (case hg => rfl); (case hn => rfl); (case hr => first | (go_simp; done) | (go_simp; rfl)); intro w29 hw; have n0_ : Aside0 (Kd.R (Kd.int .u8) 5 w29 w.heap.size (fun _ => True) v340 x6_1) := ⟨(by rw [hw]; exact (by (with_reducible repeat (first | apply Kd.R_alloc | apply Kd.R_drewN | apply Kd.R_drew)); exact Kd.R_mono (Kd.R_far (p := ⟨gb343, 3, none⟩) (Kd.R_far (p := ⟨gb343, 2, none⟩) (Kd.R_far (p := ⟨gb343, 1, none⟩) (Kd.R_far (p := ⟨gb343, 0, none⟩) (Kd.R_types HO_6.out BK343.out (by decide)) (fun _ hk => hk.2) (.int .i64 ((rd_T51 l1 x16_1).f0))) (fun _ hk => hk.2) (.int .i64 ((rd_T51 l1 x16_1).f1))) (fun _ hk => hk.2) (.int .u8 ((rd_T51 l1 x16_1).f2))) (fun _ hk => hk.2) (.int .u8 ((rd_T51 l1 x16_1).f3))) (fun _ hk => trivial)))⟩; have n1_ : Aside0 (w29.heap[gb343]? = some (.cells #[.int .i64 ((rd_T51 l1 x16_1).f0), .int .i64 ((rd_T51 l1 x16_1).f1), .int .u8 ((rd_T51 l1 x16_1).f2), .int .u8 ((rd_T51 l1 x16_1).f3)] 51 (0, 0))) := ⟨(by rw [hw]; exact (by (with_reducible repeat (first | refine blk_drewN ?_ _ | refine blk_drew ?_ | refine blk_alloc ?_ _)); refine blk_put (cs := #[.int .i64 ((rd_T51 l1 x16_1).f0), .int .i64 ((rd_T51 l1 x16_1).f1), .int .u8 ((rd_T51 l1 x16_1).f2), .int .u8 0]) ?_ 3 _ rfl; (with_reducible repeat (first | refine blk_drewN ?_ _ | refine blk_drew ?_ | refine blk_alloc ?_ _)); refine blk_put (cs := #[.int .i64 ((rd_T51 l1 x16_1).f0), .int .i64 ((rd_T51 l1 x16_1).f1), .int .u8 0, .int .u8 0]) ?_ 2 _ rfl; (with_reducible repeat (first | refine blk_drewN ?_ _ | refine blk_drew ?_ | refine blk_alloc ?_ _)); refine blk_put (cs := #[.int .i64 ((rd_T51 l1 x16_1).f0), .int .i64 0, .int .u8 0, .int .u8 0]) ?_ 1 _ rfl; (with_reducible repeat (first | refine blk_drewN ?_ _ | refine blk_drew ?_ | refine blk_alloc ?_ _)); refine blk_put (cs := #[.int .i64 0, .int .i64 0, .int .u8 0, .int .u8 0]) ?_ 0 _ rfl; (with_reducible repeat (first | refine blk_drewN ?_ _ | refine blk_drew ?_ | refine blk_alloc ?_ _)); exact BK343.out))⟩; have n2_ : Aside0 (Below w.heap.size w w29) := ⟨(by rw [hw]; exact (by repeat (first | (with_reducible first | exact HB.out | apply below_alloc | apply pw_below_drewN | apply below_drew1 | refine below_set ?_ GE343.out) | exact HB.out)))⟩; clear hw; clear HO_6; clear BK343; clear HB; have HO_6 := n0_; have BK343 := n1_; have HB := n2_; clear n0_ n1_ n2_; have hcz30_0 : w29.cell? ⟨gb343, 0, none⟩ = some (.int .i64 ((rd_T51 l1 x16_1).f0)) := (blk_cell BK343.out 0).trans rfl; have hcz30_1 : w29.cell? ⟨gb343, 1, none⟩ = some (.int .i64 ((rd_T51 l1 x16_1).f1)) := (blk_cell BK343.out 1).trans rfl; have hcz30_2 : w29.cell? ⟨gb343, 2, none⟩ = some (.int .u8 ((rd_T51 l1 x16_1).f2)) := (blk_cell BK343.out 2).trans rfl; have hcz30_3 : w29.cell? ⟨gb343, 3, none⟩ = some (.int .u8 ((rd_T51 l1 x16_1).f3)) := (blk_cell BK343.out 3).trans rfl; have hfz30_0 := blk_frozen BK343.out 0; have hfz30_1 := blk_frozen BK343.out 1; have hfz30_2 := blk_frozen BK343.out 2; have hfz30_3 := blk_frozen BK343.out 3; obtain ⟨Ao31, co31, eo31⟩ := Kd.R_slice HO_6.out; subst eo31; have p344 : 0 ≤ ((ji22) : Int) := of_decide_eq_true (by first | (with_reducible assumption) | assumption); have q344 : (ji22) < (x6_1.length : Int) := of_decide_eq_true (by first | (with_reducible assumption) | assumption); obtain ⟨ad344, e344, hx344_0⟩ := Kd.at_int (Kd.R_reads' HO_6.out).2.2 (ji22) p344 q344; cases e344; replace p344 := eq_true p344; replace q344 := eq_true q344; have p26 : 0 ≤ ((ji22) : Int) := of_decide_eq_true (by first | (with_reducible assumption) | assumption); have q26 : ((ji22) : Int) < ((x6_1.length : Int) : Int) := of_decide_eq_true (by first | (with_reducible assumption) | assumption); obtain ⟨go26, co26, eo26, gb26, gl26, cl26, HG26⟩ := Kd.R_form HO_6.out (by omega); (first | cases eo26 | (injection eo26 with ea_ en_ ec_; (first | subst ea_ | (injection ea_ with ea_; subst ea_)); subst ec_; clear en_)); have GB26 := Aside0.mk gb26; have GG26 := Aside0.mk HG26; clear gb26 gl26 HG26; (first | simp only [add_plain] at hx344_0 | skip); obtain ⟨hx26_0, hf26_0⟩ := Kd.R_celln 0 HO_6.out ((ji22) : Int) p26 q26; replace p26 := eq_true p26; replace q26 := eq_true q26; obtain ⟨hy32_, hz32_⟩ := Kd.R_celln 0 HO_6.out ((ji22) : Int) (of_decide_eq_true (by first | (with_reducible assumption) | assumption)) (of_decide_eq_true (by first | (with_reducible assumption) | assumption)); have HP32 := Kd.R_putg HO_6.out ((ji22) : Int) ((rd_T51 l1 x16_1).f3)) | ((with_reducible refine gate_store (t := 5) (p := 61) rfl ?_); (try (rw [drewN_self w29]; generalize hq_ : World.drewN w29 _ = w29; have n0_ := Aside0.mk (Kd.R_at hq_ HO_6.out); have n1_ := Aside0.mk (blk_at hq_ BK343.out); have n2_ := Aside0.mk (below_at hq_ HB.out); clear hq_ HO_6 BK343 HB; have HO_6 := n0_; have BK343 := n1_; have HB := n2_; clear n0_ n1_ n2_; (try (obtain ⟨hy32_, hz32_⟩ := Kd.R_celln 0 HO_6.out ((ji22) : Int) (of_decide_eq_true (by first | (with_reducible assumption) | assumption)) (of_decide_eq_true (by first | (with_reducible assumption) | assumption)))); (try (have HP32 := Kd.R_putg HO_6.out ((ji22) : Int) ((rd_T51 l1 x16_1).f3))))); refine store_event (t := 5) (p := 61) (v := ?vo_w33) (w1 := (w29.setCell ⟨go26, ((ji22) : Int).toNat, none⟩ (.int .u8 ((rd_T51 l1 x16_1).f3)))) ?hg ?ho ?hn ?hr ?_; (case ho => rfl); (case hg => rfl); (case hn => rfl); (case hr => first | (go_simp; done) | (go_simp; rfl)); intro w33 hw; have hg : w29.grownBy w33 (some go26) := (by rw [hw]; exact HP32.2); have hp_ : Kd.R (Kd.int .u8) 5 w33 w.heap.size (fun _ => True) (.slice (some ⟨go26, 0, none⟩) x6_1.length co31) y345 := (by rw [hw, Ny345.out]; exact HP32.1); clear HP32; have n0_ := Aside0.mk (hp_); have n1_ := Aside0.mk (blk_grown (g := gb343) (o := .cells #[.int .i64 ((rd_T51 l1 x16_1).f0), .int .i64 ((rd_T51 l1 x16_1).f1), .int .u8 ((rd_T51 l1 x16_1).f2), .int .u8 ((rd_T51 l1 x16_1).f3)] 51 (0, 0)) (by (with_reducible repeat (first | refine blk_drewN ?_ _ | refine blk_drew ?_ | refine blk_alloc ?_ _)); exact BK343.out) hg (Kd.R_ne HO_6.out BK343.out (by decide))); have n2_ := Aside0.mk ((by rw [hw]; exact below_set (HB.out) GB26.out : Below w.heap.size w w33)); clear HO_6; clear BK343; clear HB; have HO_6 := n0_; have BK343 := n1_; have HB := n2_; clear n0_ n1_ n2_; clear hg hw hp_)))
                            go_roundg k1
                            case measure => have := HK1.out; omega
                            case rel => exact ⟨(y345), (wrap64 (x16_1 + 1)), (by first | rfl | (simp; done) | (simp [*]; done) | (simp [isEmpty_ne]; done)), H', ⟨by have := HK1.out; omega⟩, ⟨by (with_reducible repeat (first | apply Kd.R_alloc | apply Kd.R_drewN | apply Kd.R_drew)); exact HO_6.out⟩, ⟨by repeat (first | (with_reducible first | exact HB.out | apply below_alloc | apply pw_below_drewN | apply below_drew1 | refine below_set ?_ GE343.out) | exact HB.out)⟩⟩
                          · rw [if_neg c25] at H
                            have c25b0 : ((rd x6_1 (ji22)) == ((rd_T51 l1 x16_1).f2)) = false := beq_eq_false_iff_ne.mpr c25
                            have c25b1 : ((rd x6_1 (ji22)) != ((rd_T51 l1 x16_1).f2)) = true := bne_iff_ne.mpr c25
                            simp only [Option.some.injEq, Prod.mk.injEq] at H
                            obtain ⟨rfl, rfl⟩ := H
                            have p342 : 0 ≤ (x16_1 : Int) := of_decide_eq_true (by first | (with_reducible assumption) | assumption)
                            have q342 : x16_1 < (l1.length : Int) := of_decide_eq_true (by first | (with_reducible assumption) | assumption)
                            obtain ⟨ad342, e342, hx342_0, hx342_1, hx342_2, hx342_3⟩ := at_T51 HR1.out x16_1 p342 q342
                            cases e342
                            replace hx342_0 := (HB.out.cell (World.block_lt_of_cell? w _ hx342_0)).trans hx342_0
                            replace hx342_1 := (HB.out.cell (World.block_lt_of_cell? w _ hx342_1)).trans hx342_1
                            replace hx342_2 := (HB.out.cell (World.block_lt_of_cell? w _ hx342_2)).trans hx342_2
                            replace hx342_3 := (HB.out.cell (World.block_lt_of_cell? w _ hx342_3)).trans hx342_3
                            replace p342 := eq_true p342
                            replace q342 := eq_true q342
                            go_wp2_with (first | ((with_reducible refine gate_dst (N := 8) rfl ?_); refine box_event ?hg (N := 8) ?hd (cs := #[.int .i64 0, .int .i64 0, .int .u8 0, .int .u8 0]) (t := 51) ?hr ?_; (case hd => rfl); (case hg => rfl); (case hr => first | (go_simp; done) | (go_simp; rfl)); intro gb343 hg w34 hbox hb; have n0_ := Aside0.mk (Kd.R_below (by (with_reducible repeat (first | apply Kd.R_alloc | apply Kd.R_drewN | apply Kd.R_drew)); exact HO_6.out) hb); have n1_ := Aside0.mk (below_step (by repeat (first | (with_reducible first | exact HB.out | apply below_alloc | apply pw_below_drewN | apply below_drew1) | exact HB.out)) hb); have n2_ := Aside0.mk (hbox); have n3_ := Aside0.mk ((by rw [hg]; exact (below_size (by repeat (first | (with_reducible first | exact HB.out | apply below_alloc | apply pw_below_drewN | apply below_drew1) | exact HB.out))) : w.heap.size ≤ gb343)); have n4_ := Aside0.mk ((by rw [hg]; exact (below_size (by repeat (first | (with_reducible first | exact HB.out | apply below_alloc | apply pw_below_drewN | apply below_drew1) | exact HB.out))) : w.heap.size ≤ gb343)); clear HO_6; clear HB; have HO_6 := n0_; have HB := n1_; have BK343 := n2_; have GW343 := n3_; have GE343 := n4_; clear n0_ n1_ n2_ n3_ n4_; clear hb hbox hg; have hcz35_0 : w34.cell? ⟨gb343, 0, none⟩ = some (.int .i64 0) := (blk_cell BK343.out 0).trans rfl; have hcz35_1 : w34.cell? ⟨gb343, 1, none⟩ = some (.int .i64 0) := (blk_cell BK343.out 1).trans rfl; have hcz35_2 : w34.cell? ⟨gb343, 2, none⟩ = some (.int .u8 0) := (blk_cell BK343.out 2).trans rfl; have hcz35_3 : w34.cell? ⟨gb343, 3, none⟩ = some (.int .u8 0) := (blk_cell BK343.out 3).trans rfl; have hfz35_0 := blk_frozen BK343.out 0; have hfz35_1 := blk_frozen BK343.out 1; have hfz35_2 := blk_frozen BK343.out 2; have hfz35_3 := blk_frozen BK343.out 3; obtain ⟨Ao36, co36, eo36⟩ := Kd.R_slice HO_6.out; subst eo36; have p344 : 0 ≤ ((ji22) : Int) := of_decide_eq_true (by first | (with_reducible assumption) | assumption); have q344 : (ji22) < (x6_1.length : Int) := of_decide_eq_true (by first | (with_reducible assumption) | assumption); obtain ⟨ad344, e344, hx344_0⟩ := Kd.at_int (Kd.R_reads' HO_6.out).2.2 (ji22) p344 q344; cases e344; have hn344_0 : ad344.block ≠ gb343 := Kd.own_blk (Kd.R_ne HO_6.out BK343.out (by decide)); have hn344_1 : ad344.block ≠ gb343 := Kd.own_blk (Kd.R_ne HO_6.out BK343.out (by decide)); have hn344_2 : ad344.block ≠ gb343 := Kd.own_blk (Kd.R_ne HO_6.out BK343.out (by decide)); have hn344_3 : ad344.block ≠ gb343 := Kd.own_blk (Kd.R_ne HO_6.out BK343.out (by decide)); replace hx344_0 := (cell_far (p := ⟨gb343, 0, none⟩) (by first | (rw [add_block]; exact hn344_0) | (show (Addr.add _ _).block ≠ _; rw [add_block]; exact hn344_0) | exact hn344_0) (.int .i64 ((rd_T51 l1 x16_1).f0))).trans hx344_0; replace hx344_0 := (cell_far (p := ⟨gb343, 1, none⟩) (by first | (rw [add_block]; exact hn344_1) | (show (Addr.add _ _).block ≠ _; rw [add_block]; exact hn344_1) | exact hn344_1) (.int .i64 ((rd_T51 l1 x16_1).f1))).trans hx344_0; replace hx344_0 := (cell_far (p := ⟨gb343, 2, none⟩) (by first | (rw [add_block]; exact hn344_2) | (show (Addr.add _ _).block ≠ _; rw [add_block]; exact hn344_2) | exact hn344_2) (.int .u8 ((rd_T51 l1 x16_1).f2))).trans hx344_0; replace hx344_0 := (cell_far (p := ⟨gb343, 3, none⟩) (by first | (rw [add_block]; exact hn344_3) | (show (Addr.add _ _).block ≠ _; rw [add_block]; exact hn344_3) | exact hn344_3) (.int .u8 ((rd_T51 l1 x16_1).f3))).trans hx344_0; (try have hy344_0 := fun (n_ : Nat) => (show ((((((w34.drewN n_).setCell ⟨gb343, 0, none⟩ (.int .i64 ((rd_T51 l1 x16_1).f0))).setCell ⟨gb343, 1, none⟩ (.int .i64 ((rd_T51 l1 x16_1).f1))).setCell ⟨gb343, 2, none⟩ (.int .u8 ((rd_T51 l1 x16_1).f2))).setCell ⟨gb343, 3, none⟩ (.int .u8 ((rd_T51 l1 x16_1).f3)))).cell? _ = some _ from hx344_0)); clear hn344_0; clear hn344_1; clear hn344_2; clear hn344_3; replace p344 := eq_true p344; replace q344 := eq_true q344))
                            repeat (go_quiet (first | ((with_reducible refine gate_dst (N := 8) rfl ?_); refine box_event ?hg (N := 8) ?hd (cs := #[.int .i64 0, .int .i64 0, .int .u8 0, .int .u8 0]) (t := 51) ?hr ?_; (case hd => rfl); (case hg => rfl); (case hr => first | (go_simp; done) | (go_simp; rfl)); intro gb343 hg w34 hbox hb; have n0_ := Aside0.mk (Kd.R_below (by (with_reducible repeat (first | apply Kd.R_alloc | apply Kd.R_drewN | apply Kd.R_drew)); exact HO_6.out) hb); have n1_ := Aside0.mk (below_step (by repeat (first | (with_reducible first | exact HB.out | apply below_alloc | apply pw_below_drewN | apply below_drew1) | exact HB.out)) hb); have n2_ := Aside0.mk (hbox); have n3_ := Aside0.mk ((by rw [hg]; exact (below_size (by repeat (first | (with_reducible first | exact HB.out | apply below_alloc | apply pw_below_drewN | apply below_drew1) | exact HB.out))) : w.heap.size ≤ gb343)); have n4_ := Aside0.mk ((by rw [hg]; exact (below_size (by repeat (first | (with_reducible first | exact HB.out | apply below_alloc | apply pw_below_drewN | apply below_drew1) | exact HB.out))) : w.heap.size ≤ gb343)); clear HO_6; clear HB; have HO_6 := n0_; have HB := n1_; have BK343 := n2_; have GW343 := n3_; have GE343 := n4_; clear n0_ n1_ n2_ n3_ n4_; clear hb hbox hg; have hcz35_0 : w34.cell? ⟨gb343, 0, none⟩ = some (.int .i64 0) := (blk_cell BK343.out 0).trans rfl; have hcz35_1 : w34.cell? ⟨gb343, 1, none⟩ = some (.int .i64 0) := (blk_cell BK343.out 1).trans rfl; have hcz35_2 : w34.cell? ⟨gb343, 2, none⟩ = some (.int .u8 0) := (blk_cell BK343.out 2).trans rfl; have hcz35_3 : w34.cell? ⟨gb343, 3, none⟩ = some (.int .u8 0) := (blk_cell BK343.out 3).trans rfl; have hfz35_0 := blk_frozen BK343.out 0; have hfz35_1 := blk_frozen BK343.out 1; have hfz35_2 := blk_frozen BK343.out 2; have hfz35_3 := blk_frozen BK343.out 3; obtain ⟨Ao36, co36, eo36⟩ := Kd.R_slice HO_6.out; subst eo36; have p344 : 0 ≤ ((ji22) : Int) := of_decide_eq_true (by first | (with_reducible assumption) | assumption); have q344 : (ji22) < (x6_1.length : Int) := of_decide_eq_true (by first | (with_reducible assumption) | assumption); obtain ⟨ad344, e344, hx344_0⟩ := Kd.at_int (Kd.R_reads' HO_6.out).2.2 (ji22) p344 q344; cases e344; have hn344_0 : ad344.block ≠ gb343 := Kd.own_blk (Kd.R_ne HO_6.out BK343.out (by decide)); have hn344_1 : ad344.block ≠ gb343 := Kd.own_blk (Kd.R_ne HO_6.out BK343.out (by decide)); have hn344_2 : ad344.block ≠ gb343 := Kd.own_blk (Kd.R_ne HO_6.out BK343.out (by decide)); have hn344_3 : ad344.block ≠ gb343 := Kd.own_blk (Kd.R_ne HO_6.out BK343.out (by decide)); replace hx344_0 := (cell_far (p := ⟨gb343, 0, none⟩) (by first | (rw [add_block]; exact hn344_0) | (show (Addr.add _ _).block ≠ _; rw [add_block]; exact hn344_0) | exact hn344_0) (.int .i64 ((rd_T51 l1 x16_1).f0))).trans hx344_0; replace hx344_0 := (cell_far (p := ⟨gb343, 1, none⟩) (by first | (rw [add_block]; exact hn344_1) | (show (Addr.add _ _).block ≠ _; rw [add_block]; exact hn344_1) | exact hn344_1) (.int .i64 ((rd_T51 l1 x16_1).f1))).trans hx344_0; replace hx344_0 := (cell_far (p := ⟨gb343, 2, none⟩) (by first | (rw [add_block]; exact hn344_2) | (show (Addr.add _ _).block ≠ _; rw [add_block]; exact hn344_2) | exact hn344_2) (.int .u8 ((rd_T51 l1 x16_1).f2))).trans hx344_0; replace hx344_0 := (cell_far (p := ⟨gb343, 3, none⟩) (by first | (rw [add_block]; exact hn344_3) | (show (Addr.add _ _).block ≠ _; rw [add_block]; exact hn344_3) | exact hn344_3) (.int .u8 ((rd_T51 l1 x16_1).f3))).trans hx344_0; (try have hy344_0 := fun (n_ : Nat) => (show ((((((w34.drewN n_).setCell ⟨gb343, 0, none⟩ (.int .i64 ((rd_T51 l1 x16_1).f0))).setCell ⟨gb343, 1, none⟩ (.int .i64 ((rd_T51 l1 x16_1).f1))).setCell ⟨gb343, 2, none⟩ (.int .u8 ((rd_T51 l1 x16_1).f2))).setCell ⟨gb343, 3, none⟩ (.int .u8 ((rd_T51 l1 x16_1).f3)))).cell? _ = some _ from hx344_0)); clear hn344_0; clear hn344_1; clear hn344_2; clear hn344_3; replace p344 := eq_true p344; replace q344 := eq_true q344)); try go_wp2_with (first | ((with_reducible refine gate_dst (N := 8) rfl ?_); refine box_event ?hg (N := 8) ?hd (cs := #[.int .i64 0, .int .i64 0, .int .u8 0, .int .u8 0]) (t := 51) ?hr ?_; (case hd => rfl); (case hg => rfl); (case hr => first | (go_simp; done) | (go_simp; rfl)); intro gb343 hg w34 hbox hb; have n0_ := Aside0.mk (Kd.R_below (by (with_reducible repeat (first | apply Kd.R_alloc | apply Kd.R_drewN | apply Kd.R_drew)); exact HO_6.out) hb); have n1_ := Aside0.mk (below_step (by repeat (first | (with_reducible first | exact HB.out | apply below_alloc | apply pw_below_drewN | apply below_drew1) | exact HB.out)) hb); have n2_ := Aside0.mk (hbox); have n3_ := Aside0.mk ((by rw [hg]; exact (below_size (by repeat (first | (with_reducible first | exact HB.out | apply below_alloc | apply pw_below_drewN | apply below_drew1) | exact HB.out))) : w.heap.size ≤ gb343)); have n4_ := Aside0.mk ((by rw [hg]; exact (below_size (by repeat (first | (with_reducible first | exact HB.out | apply below_alloc | apply pw_below_drewN | apply below_drew1) | exact HB.out))) : w.heap.size ≤ gb343)); clear HO_6; clear HB; have HO_6 := n0_; have HB := n1_; have BK343 := n2_; have GW343 := n3_; have GE343 := n4_; clear n0_ n1_ n2_ n3_ n4_; clear hb hbox hg; have hcz35_0 : w34.cell? ⟨gb343, 0, none⟩ = some (.int .i64 0) := (blk_cell BK343.out 0).trans rfl; have hcz35_1 : w34.cell? ⟨gb343, 1, none⟩ = some (.int .i64 0) := (blk_cell BK343.out 1).trans rfl; have hcz35_2 : w34.cell? ⟨gb343, 2, none⟩ = some (.int .u8 0) := (blk_cell BK343.out 2).trans rfl; have hcz35_3 : w34.cell? ⟨gb343, 3, none⟩ = some (.int .u8 0) := (blk_cell BK343.out 3).trans rfl; have hfz35_0 := blk_frozen BK343.out 0; have hfz35_1 := blk_frozen BK343.out 1; have hfz35_2 := blk_frozen BK343.out 2; have hfz35_3 := blk_frozen BK343.out 3; obtain ⟨Ao36, co36, eo36⟩ := Kd.R_slice HO_6.out; subst eo36; have p344 : 0 ≤ ((ji22) : Int) := of_decide_eq_true (by first | (with_reducible assumption) | assumption); have q344 : (ji22) < (x6_1.length : Int) := of_decide_eq_true (by first | (with_reducible assumption) | assumption); obtain ⟨ad344, e344, hx344_0⟩ := Kd.at_int (Kd.R_reads' HO_6.out).2.2 (ji22) p344 q344; cases e344; have hn344_0 : ad344.block ≠ gb343 := Kd.own_blk (Kd.R_ne HO_6.out BK343.out (by decide)); have hn344_1 : ad344.block ≠ gb343 := Kd.own_blk (Kd.R_ne HO_6.out BK343.out (by decide)); have hn344_2 : ad344.block ≠ gb343 := Kd.own_blk (Kd.R_ne HO_6.out BK343.out (by decide)); have hn344_3 : ad344.block ≠ gb343 := Kd.own_blk (Kd.R_ne HO_6.out BK343.out (by decide)); replace hx344_0 := (cell_far (p := ⟨gb343, 0, none⟩) (by first | (rw [add_block]; exact hn344_0) | (show (Addr.add _ _).block ≠ _; rw [add_block]; exact hn344_0) | exact hn344_0) (.int .i64 ((rd_T51 l1 x16_1).f0))).trans hx344_0; replace hx344_0 := (cell_far (p := ⟨gb343, 1, none⟩) (by first | (rw [add_block]; exact hn344_1) | (show (Addr.add _ _).block ≠ _; rw [add_block]; exact hn344_1) | exact hn344_1) (.int .i64 ((rd_T51 l1 x16_1).f1))).trans hx344_0; replace hx344_0 := (cell_far (p := ⟨gb343, 2, none⟩) (by first | (rw [add_block]; exact hn344_2) | (show (Addr.add _ _).block ≠ _; rw [add_block]; exact hn344_2) | exact hn344_2) (.int .u8 ((rd_T51 l1 x16_1).f2))).trans hx344_0; replace hx344_0 := (cell_far (p := ⟨gb343, 3, none⟩) (by first | (rw [add_block]; exact hn344_3) | (show (Addr.add _ _).block ≠ _; rw [add_block]; exact hn344_3) | exact hn344_3) (.int .u8 ((rd_T51 l1 x16_1).f3))).trans hx344_0; (try have hy344_0 := fun (n_ : Nat) => (show ((((((w34.drewN n_).setCell ⟨gb343, 0, none⟩ (.int .i64 ((rd_T51 l1 x16_1).f0))).setCell ⟨gb343, 1, none⟩ (.int .i64 ((rd_T51 l1 x16_1).f1))).setCell ⟨gb343, 2, none⟩ (.int .u8 ((rd_T51 l1 x16_1).f2))).setCell ⟨gb343, 3, none⟩ (.int .u8 ((rd_T51 l1 x16_1).f3)))).cell? _ = some _ from hx344_0)); clear hn344_0; clear hn344_1; clear hn344_2; clear hn344_3; replace p344 := eq_true p344; replace q344 := eq_true q344)))
                            go_ret2
                            exact ⟨_, by first | rfl | (simp [errW_none, errW_some] <;> rfl) | (simp only [← hji22]; first | rfl | (simp [errW_none, errW_some] <;> rfl)) | (simp [*, errW_none, errW_some] <;> rfl), by first | exact Kd.R_nil _ _ _ _ _ | exact Kd.N_nil _ _ _ _ _ | exact Kd.V_nil _ _ _ _ _ | exact Kd.Q_nil _ _ _ _ _ | exact Kd.S_nil _ _ _ _ _, by repeat (first | (with_reducible first | exact HB.out | apply below_alloc | apply pw_below_drewN | apply below_drew1 | refine below_set ?_ GE343.out) | exact HB.out)⟩
                        · rw [if_neg c24] at H
                          exact absurd H (by simp)
                      · rw [if_neg c23] at H
                        exact absurd H (by simp)
            · rw [if_neg c9] at H
              exact absurd H (by simp)
          · rw [if_neg c8] at H
            exact absurd H (by simp)
        · rw [if_neg c7] at H
          have c7b0 : decide (x16_1 < (l1.length : Int)) = false := decide_eq_false c7
          clear c7
          simp only [Option.some.injEq, Prod.mk.injEq] at H
          obtain ⟨rfl, rfl⟩ := H
          go_wp2
          repeat (go_quiet (fail); try go_wp2)
          go_ret2
          exact ⟨_, by first | rfl | (simp [errW_none, errW_some] <;> rfl) | (simp [*, errW_none, errW_some] <;> rfl), by (with_reducible repeat (first | apply Kd.R_alloc | apply Kd.R_drewN | apply Kd.R_drew)); exact HO_6.out, by repeat (first | (with_reducible first | exact HB.out | apply below_alloc | apply pw_below_drewN | apply below_drew1) | exact HB.out)⟩
  · replace c4 := Bool.eq_false_iff.mpr c4
    subst c4
    have H1 : (some (([] : List Int), 2)) = some (r1, r2) := by rw [if_neg (show ¬ (false = true) by decide)] at H; exact H
    clear H
    have H := H1
    clear H1
    simp only [Option.some.injEq, Prod.mk.injEq] at H
    obtain ⟨rfl, rfl⟩ := H
    go_enter Tryd.func16, Tryd.ntmps16
    go_wp2_with (first | (go_at_call 32; (with_reducible refine (shot_screen.calls _ _ l0 false _ ?side1 ?side2 A3.out).mono ?_); (case side1 => repeat (first | exact HR0.out | (with_reducible refine Kd.C_alloc ?_ _) | (with_reducible refine Kd.C_drewN ?_ _) | (with_reducible refine Kd.C_drew ?_))); (case side2 => exact HC0.out); rintro e w' ⟨rfl, ⟨nd, rfl⟩⟩; (try first | exact ⟨rfl, _, World.drewN_drewN _ _ _⟩ | exact ⟨rfl, _, Eq.trans (World.drewN_drewN _ _ _) (congrArg (World.drewN _) (Nat.add_assoc _ _ _))⟩)))
    repeat (go_quiet (first | (go_at_call 32; (with_reducible refine (shot_screen.calls _ _ l0 false _ ?side1 ?side2 A3.out).mono ?_); (case side1 => repeat (first | exact HR0.out | (with_reducible refine Kd.C_alloc ?_ _) | (with_reducible refine Kd.C_drewN ?_ _) | (with_reducible refine Kd.C_drew ?_))); (case side2 => exact HC0.out); rintro e w' ⟨rfl, ⟨nd, rfl⟩⟩; (try first | exact ⟨rfl, _, World.drewN_drewN _ _ _⟩ | exact ⟨rfl, _, Eq.trans (World.drewN_drewN _ _ _) (congrArg (World.drewN _) (Nat.add_assoc _ _ _))⟩))); try go_wp2_with (first | (go_at_call 32; (with_reducible refine (shot_screen.calls _ _ l0 false _ ?side1 ?side2 A3.out).mono ?_); (case side1 => repeat (first | exact HR0.out | (with_reducible refine Kd.C_alloc ?_ _) | (with_reducible refine Kd.C_drewN ?_ _) | (with_reducible refine Kd.C_drew ?_))); (case side2 => exact HC0.out); rintro e w' ⟨rfl, ⟨nd, rfl⟩⟩; (try first | exact ⟨rfl, _, World.drewN_drewN _ _ _⟩ | exact ⟨rfl, _, Eq.trans (World.drewN_drewN _ _ _) (congrArg (World.drewN _) (Nat.add_assoc _ _ _))⟩))))
    go_ret2
    exact ⟨_, by first | rfl | (simp [errW_none, errW_some] <;> rfl) | (simp [*, errW_none, errW_some] <;> rfl), by first | exact Kd.R_nil _ _ _ _ _ | exact Kd.N_nil _ _ _ _ _ | exact Kd.V_nil _ _ _ _ _ | exact Kd.Q_nil _ _ _ _ _ | exact Kd.S_nil _ _ _ _ _, by repeat (first | (with_reducible first | exact HB.out | apply below_alloc | apply pw_below_drewN | apply below_drew1) | exact HB.out)⟩

/-! ### shot_half: function 34 -/
def shot_half.f (a0 : Int) : Option (Int) := if a0 ≥ 97 then (some ((((a0 - 97) % 256) + 10) % 256)) else (some ((a0 - 48) % 256))
set_option maxHeartbeats 8000000 in
set_option maxRecDepth 100000 in
theorem shot_half.calls (a0 : Int) (r : Int) (w : World) (h : shot_half.f a0 = some r) :
    Calls Tryd.prog 34 #[.int .u8 a0] w fun e w' => e = .returned (.int .u8 r) ∧ Drawn0 w w' := by
  have H : (if a0 ≥ 97 then (some ((((a0 - 97) % 256) + 10) % 256)) else (some ((a0 - 48) % 256))) = some r := h
  clear h
  by_cases c2 : a0 ≥ 97
  · rw [if_pos c2] at H
    have c2b0 : decide (97 ≤ a0) = true := decide_eq_true c2
    clear c2
    obtain rfl := Option.some.inj H
    go_enter Tryd.func34, Tryd.ntmps34
    go_wp2
    go_ret
    exact ⟨by first | rfl | (simp; done) | (simp [*]; done) | (simp [isEmpty_ne]; done), by repeat (first | exact Drawn0.refl _ | apply Drawn0.step)⟩
  · rw [if_neg c2] at H
    have c2b0 : decide (97 ≤ a0) = false := decide_eq_false c2
    clear c2
    obtain rfl := Option.some.inj H
    go_enter Tryd.func34, Tryd.ntmps34
    go_wp2
    go_ret
    exact ⟨by first | rfl | (simp; done) | (simp [*]; done) | (simp [isEmpty_ne]; done), by repeat (first | exact Drawn0.refl _ | apply Drawn0.step)⟩

/-! ### shot_Read: function 18 -/
mutual
def shot_Read.l0 : Nat → ByteArray → List Int → Int → Option (List Int × Int)
  | 0, _, _, _ => none
  | k + 1, x0, x4, x13 => if x13 < 48 then (shot_Read.l1 k x0 x4 x13 x13 0) else ((shot_Art.f k x4).bind fun bt346 => (if bt346.1.toList = x0.toList then (some (x4, 0)) else (some (([] : List Int), 2))))
def shot_Read.l1 : Nat → ByteArray → List Int → Int → Int → Int → Option (List Int × Int)
  | 0, _, _, _, _, _ => none
  | k + 1, x0, x4, x5, x13, x16 => if x16 < 64 then (if 0 ≤ (wrap64 ((wrap64 (x5 * 129)) + (wrap64 (2 * x16)))) then (if (wrap64 ((wrap64 (x5 * 129)) + (wrap64 (2 * x16)))) ≤ (x0.size : Int) then (if 0 ≤ 2 then (if 2 ≤ ((x0.extract ((wrap64 ((wrap64 (x5 * 129)) + (wrap64 (2 * x16)))) : Int).toNat x0.size).size : Int) then (if ((x0.extract ((wrap64 ((wrap64 (x5 * 129)) + (wrap64 (2 * x16)))) : Int).toNat x0.size).extract 0 2).toList = ([46, 46] : List UInt8) then (if x4.length < 140737488355328 then (shot_Read.l1 k x0 (x4 ++ [0]) x5 x13 (wrap64 (x16 + 1))) else (none)) else (if 0 < (((x0.extract ((wrap64 ((wrap64 (x5 * 129)) + (wrap64 (2 * x16)))) : Int).toNat x0.size).extract 0 2).size : Int) then ((shot_half.f (bt ((x0.extract ((wrap64 ((wrap64 (x5 * 129)) + (wrap64 (2 * x16)))) : Int).toNat x0.size).extract 0 2) 0)).bind fun t351 => (if 1 < (((x0.extract ((wrap64 ((wrap64 (x5 * 129)) + (wrap64 (2 * x16)))) : Int).toNat x0.size).extract 0 2).size : Int) then ((shot_half.f (bt ((x0.extract ((wrap64 ((wrap64 (x5 * 129)) + (wrap64 (2 * x16)))) : Int).toNat x0.size).extract 0 2) 1)).bind fun t352 => (if x4.length < 140737488355328 then (shot_Read.l1 k x0 (x4 ++ [Go.bits .or .u8 ((t351 * 16) % 256) (Go.bits .and .u8 t352 15)]) x5 x13 (wrap64 (x16 + 1))) else (none))) else (none))) else (none))) else (none)) else (none)) else (none)) else (none)) else (shot_Read.l0 k x0 x4 (wrap64 (x13 + 1)))
end
def shot_Read.f (k : Nat) (a0 : ByteArray) : Option (List Int × Int) := if (a0.size : Int) = 6192 then (shot_Read.l0 k a0 ([] : List Int) 0) else (some (([] : List Int), 2))
theorem shot_Read.mono_l : ∀ k, (∀ y0 y1 y2, LeO (shot_Read.l0 k y0 y1 y2) (shot_Read.l0 (k + 1) y0 y1 y2)) ∧ (∀ y0 y1 y2 y3 y4, LeO (shot_Read.l1 k y0 y1 y2 y3 y4) (shot_Read.l1 (k + 1) y0 y1 y2 y3 y4))
  | 0 => ⟨fun _ _ _ r h => by simp [shot_Read.l0] at h, fun _ _ _ _ _ r h => by simp [shot_Read.l1] at h⟩
  | k + 1 => by
    obtain ⟨ih0, ih1⟩ := shot_Read.mono_l k
    refine ⟨?_, ?_⟩
    · intro y0 y1 y2
      unfold shot_Read.l0
      repeat' first
      | (with_reducible exact ih0 _ _ _)
      | (with_reducible exact ih1 _ _ _ _ _)
      | (with_reducible exact shot_Art.mono _ _)
      | (with_reducible exact LeO.refl _)
      | (with_reducible exact LeO.none _)
      | (with_reducible refine LeO.ite ?_ ?_)
      | (with_reducible refine LeO.bind ?_ (fun _ => ?_))
      | exact ih0 _ _ _
      | exact ih1 _ _ _ _ _
      | exact shot_Art.mono _ _
      | exact LeO.none _
      | refine LeO.ite ?_ ?_
      | refine LeO.bind ?_ (fun _ => ?_)
    · intro y0 y1 y2 y3 y4
      unfold shot_Read.l1
      repeat' first
      | (with_reducible exact ih0 _ _ _)
      | (with_reducible exact ih1 _ _ _ _ _)
      | (with_reducible exact shot_Art.mono _ _)
      | (with_reducible exact LeO.refl _)
      | (with_reducible exact LeO.none _)
      | (with_reducible refine LeO.ite ?_ ?_)
      | (with_reducible refine LeO.bind ?_ (fun _ => ?_))
      | exact ih0 _ _ _
      | exact ih1 _ _ _ _ _
      | exact shot_Art.mono _ _
      | exact LeO.none _
      | refine LeO.ite ?_ ?_
      | refine LeO.bind ?_ (fun _ => ?_)
theorem shot_Read.mono : ∀ a0 k, LeO (shot_Read.f k a0) (shot_Read.f (k + 1) a0) := by
  intro a0 k
  obtain ⟨ih0, ih1⟩ := shot_Read.mono_l k
  unfold shot_Read.f
  repeat' first
      | (with_reducible exact ih0 _ _ _)
      | (with_reducible exact ih1 _ _ _ _ _)
      | (with_reducible exact shot_Art.mono _ _)
      | (with_reducible exact LeO.refl _)
      | (with_reducible exact LeO.none _)
      | (with_reducible refine LeO.ite ?_ ?_)
      | (with_reducible refine LeO.bind ?_ (fun _ => ?_))
      | exact ih0 _ _ _
      | exact ih1 _ _ _ _ _
      | exact shot_Art.mono _ _
      | exact LeO.none _
      | refine LeO.ite ?_ ?_
      | refine LeO.bind ?_ (fun _ => ?_)
def shot_Read.T13 : Bool × List (List Nat × List Nat) := (true, [([], []), ([], []), ([1], [1]), ([2], [2]), ([3], [3]), ([], []), ([5], [5]), ([6, 3], [6]), ([7], [7]), ([4, 8], [4, 8]), ([9], [9]), ([0, 10, 7], [0, 10]), ([11, 11, 0, 1, 2, 3, 4, 5, 6, 7, 8, 9, 10, 11], [0, 11])])
def shot_Read.B13 : List Nat := [0, 0, 2, 6, 14, 0, 32, 110, 238, 510, 1022, 2047, 4095]
theorem shot_Read.tab13 : rtab .any (opsOf Tryd.f18 13) = shot_Read.T13 := by kernel_rfl
theorem shot_Read.bits13 : waitsOk shot_Read.T13.2 shot_Read.B13 = true := by kernel_rfl
set_option maxHeartbeats 8000000 in
set_option maxRecDepth 100000 in
theorem shot_Read.calls (k : Nat) (a0 : ByteArray) (r1 : List Int) (r2 : Int) (w : World) (h : shot_Read.f k a0 = some (r1, r2)) :
    Calls Tryd.prog 18 #[.string a0] w fun e w' => ∃ v0_ : Value, e = .returned (.tuple #[v0_, .int .i64 r2]) ∧ Kd.R (Kd.int .u8) 5 w' w.heap.size (fun _ => True) v0_ r1 ∧ Below w.heap.size w w' := by
  have HB := Aside0.mk (Below.refl w.heap.size w)
  have H : (if (a0.size : Int) = 6192 then (shot_Read.l0 k a0 ([] : List Int) 0) else (some (([] : List Int), 2))) = some (r1, r2) := h
  clear h
  by_cases c2 : (a0.size : Int) = 6192
  · rw [if_pos c2] at H
    have c2b0 : ((a0.size : Int) == 6192) = true := beq_iff_eq.mpr c2
    have c2b1 : ((a0.size : Int) != 6192) = false := bne_eq_false_iff_eq.mpr c2
    clear c2
    have H' := Aside0.mk H
    clear H
    go_enter Tryd.func18, Tryd.ntmps18
    go_wp2
    go_loopg [4, 13] k (fun kq v4 v13 w' => ∃ (x4_1 : List Int) (x13_1 : Int), v13 = .int .i64 x13_1 ∧ Aside0 (shot_Read.l0 kq a0 x4_1 x13_1 = some (r1, r2)) ∧ Aside0 (kq ≤ k) ∧ Aside0 (Kd.R (Kd.int .u8) 5 w' w.heap.size (fun _ => True) v4 x4_1) ∧ Aside0 (Below w.heap.size w w'))
    case atStart => exact ⟨(([] : List Int)), (0), (by first | rfl | (simp; done) | (simp [*]; done) | (simp [isEmpty_ne]; done)), H', ⟨Nat.le_refl _⟩, ⟨by first | exact Kd.R_nil _ _ _ _ _ | exact Kd.N_nil _ _ _ _ _ | exact Kd.V_nil _ _ _ _ _ | exact Kd.Q_nil _ _ _ _ _ | exact Kd.S_nil _ _ _ _ _⟩, ⟨by repeat (first | (with_reducible first | exact HB.out | apply below_alloc | apply pw_below_drewN | apply below_drew1) | exact HB.out)⟩⟩
    case round =>
      clear H'
      try clear c1
      try clear c2
      try clear c2b0
      try clear c2b1
      try clear p2
      obtain ⟨x4_1, x13_1, rfl, HA, HK1, HO_4, HB⟩ := hrel
      cases gk with
      | zero => exact absurd HA.out (by simp [shot_Read.l0])
      | succ k1 =>
        have H := HA.out
        clear HA
        simp only [shot_Read.l0] at H
        by_cases c3 : x13_1 < 48
        · rw [if_pos c3] at H
          have c3b0 : decide (x13_1 < 48) = true := decide_eq_true c3
          clear c3
          have H' := Aside0.mk H
          clear H
          go_wp2
          go_loopg [4, 16] k1 (fun kq v4 v16 w' => ∃ (x4_2 : List Int) (x16_2 : Int), v16 = .int .i64 x16_2 ∧ Aside0 (shot_Read.l1 kq a0 x4_2 x13_1 x13_1 x16_2 = some (r1, r2)) ∧ Aside0 (kq ≤ k1) ∧ Aside0 (Kd.R (Kd.int .u8) 5 w' w.heap.size (fun _ => True) v4 x4_2) ∧ Aside0 (Below w.heap.size w w'))
          case atStart => exact ⟨(x4_1), (0), (by first | rfl | (simp; done) | (simp [*]; done) | (simp [isEmpty_ne]; done)), H', ⟨Nat.le_refl _⟩, ⟨by (with_reducible repeat (first | apply Kd.R_alloc | apply Kd.R_drewN | apply Kd.R_drew)); exact HO_4.out⟩, ⟨by repeat (first | (with_reducible first | exact HB.out | apply below_alloc | apply pw_below_drewN | apply below_drew1) | exact HB.out)⟩⟩
          case round =>
            clear H'
            try clear c1
            try clear c2
            try clear c2b0
            try clear c2b1
            try clear p2
            try clear c3
            try clear c3b0
            try clear p2
            obtain ⟨x4_2, x16_2, rfl, HA, HK2, HO_4, HB⟩ := hrel
            cases gk with
            | zero => exact absurd HA.out (by simp [shot_Read.l1])
            | succ k2 =>
              have H := HA.out
              clear HA
              simp only [shot_Read.l1] at H
              by_cases c4 : x16_2 < 64
              · rw [if_pos c4] at H
                have c4b0 : decide (x16_2 < 64) = true := decide_eq_true c4
                clear c4
                obtain ⟨ji5, hji5⟩ : ∃ j_ : Int, (wrap64 ((wrap64 (x13_1 * 129)) + (wrap64 (2 * x16_2)))) = j_ := ⟨_, rfl⟩
                replace H : (if 0 ≤ (ji5) then (if (ji5) ≤ (a0.size : Int) then (if 0 ≤ 2 then (if 2 ≤ ((a0.extract ((ji5) : Int).toNat a0.size).size : Int) then (if ((a0.extract ((ji5) : Int).toNat a0.size).extract 0 2).toList = ([46, 46] : List UInt8) then (if x4_2.length < 140737488355328 then (shot_Read.l1 k2 a0 (x4_2 ++ [0]) x13_1 x13_1 (wrap64 (x16_2 + 1))) else (none)) else (if 0 < (((a0.extract ((ji5) : Int).toNat a0.size).extract 0 2).size : Int) then ((shot_half.f (bt ((a0.extract ((ji5) : Int).toNat a0.size).extract 0 2) 0)).bind fun t351 => (if 1 < (((a0.extract ((ji5) : Int).toNat a0.size).extract 0 2).size : Int) then ((shot_half.f (bt ((a0.extract ((ji5) : Int).toNat a0.size).extract 0 2) 1)).bind fun t352 => (if x4_2.length < 140737488355328 then (shot_Read.l1 k2 a0 (x4_2 ++ [Go.bits .or .u8 ((t351 * 16) % 256) (Go.bits .and .u8 t352 15)]) x13_1 x13_1 (wrap64 (x16_2 + 1))) else (none))) else (none))) else (none))) else (none)) else (none)) else (none)) else (none)) = some (r1, r2) := by first | (rw [hji5] at H; exact H) | (simp only [hji5] at H ⊢; exact H)
                have hji5w : (IntKind.i64.wrap ((wrap64 (x13_1 * 129)) + (wrap64 (2 * x16_2)))) = ji5 := (i64_w _).trans hji5
                obtain ⟨sA_, hsA_⟩ : ∃ s_ : ByteArray, a0.extract (ji5 : Int).toNat a0.size = s_ := ⟨_, rfl⟩
                obtain ⟨sB_, hsB_⟩ : ∃ s_ : ByteArray, sA_.extract 0 2 = s_ := ⟨_, rfl⟩
                rw [hsA_] at H
                rw [hsB_] at H
                by_cases c6 : 0 ≤ (ji5)
                · rw [if_pos c6] at H
                  have c6b0 := eq_true c6
                  have c6b1 : decide (0 ≤ (ji5)) = true := decide_eq_true c6
                  clear c6
                  by_cases c7 : (ji5) ≤ (a0.size : Int)
                  · rw [if_pos c7] at H
                    have c7b0 := eq_true c7
                    have c7b1 : decide ((ji5) ≤ (a0.size : Int)) = true := decide_eq_true c7
                    clear c7
                    by_cases c8 : 0 ≤ 2
                    · rw [if_pos c8] at H
                      have c8b0 := eq_true c8
                      have c8b1 : decide (0 ≤ 2) = true := decide_eq_true c8
                      clear c8
                      by_cases c9 : 2 ≤ (sA_.size : Int)
                      · rw [if_pos c9] at H
                        have c9b0 := eq_true c9
                        have c9b1 : decide (2 ≤ (sA_.size : Int)) = true := decide_eq_true c9
                        clear c9
                        by_cases c10 : sB_.toList = ([46, 46] : List UInt8)
                        · rw [if_pos c10] at H
                          have c10b0 : (sB_.toList == ([46, 46] : List UInt8)) = true := beq_iff_eq.mpr c10
                          have c10b1 : (sB_.toList != ([46, 46] : List UInt8)) = false := bne_eq_false_iff_eq.mpr c10
                          clear c10
                          by_cases c11 : x4_2.length < 140737488355328
                          · rw [if_pos c11] at H
                            have LMc11 := Aside0.mk c11
                            clear c11
                            obtain ⟨y348, hy348⟩ : ∃ y_ : List Int, y_ = (x4_2 ++ [0]) := ⟨_, rfl⟩
                            replace H : (shot_Read.l1 k2 a0 y348 x13_1 x13_1 (wrap64 (x16_2 + 1))) = some (r1, r2) := by first | (rw [hy348]; with_reducible exact H) | (have H2_ := (Option.bind_some _ _).symm.trans H; rw [hy348]; with_reducible exact H2_) | (have H2_ := (Option.bind_some _ _).symm.trans H; with_reducible exact H2_) | with_reducible exact H | (rw [hy348]; exact H) | exact H
                            have Ny348 := Aside0.mk hy348
                            clear hy348
                            have H' := Aside0.mk H
                            clear H
                            go_wp2_with (first | ((with_reducible refine gate_builtin (b := .append) (xs := #[.tmp 29, .tmp 30]) rfl ?_); at_builtin; refine Kd.R_append (Kd.int .u8) (w0 := w) w.heap.size rfl (.tmp 29) (.tmp 30) 24 5 (.int .u8 0) 1 rfl Tryd.underlying24 info5 rfl (by decide) (by omega) u4 x4_2 0 [.int .u8 0] (fun _ => True) (fun _ => False) rfl rfl ?aP (fun _ hk => hk.elim) ?aF ?aO ?aB ?aS ?aL ?_; (case aP => exact rfl); (case aB => exact (by repeat (first | (with_reducible first | exact HB.out | apply below_alloc | apply pw_below_drewN | apply below_drew1) | exact HB.out))); (case aF => exact (fun _ _ => trivial)); (case aO => exact (by (with_reducible repeat (first | apply Kd.R_alloc | apply Kd.R_drewN | apply Kd.R_drew)); exact HO_4.out)); (case aS => exact (below_size (by repeat (first | (with_reducible first | exact HB.out | apply below_alloc | apply pw_below_drewN | apply below_drew1) | exact HB.out)))); (case aL => have := LMc11.out; omega); intro v349 w12 ho hb hg hat; rw [← Ny348.out] at ho; have n0_ := Aside0.mk (hb); have n1_ := Aside0.mk (ho); clear HB; clear HO_4; have HB := n0_; have HO350 := n1_; clear n0_ n1_; clear ho hb hg hat))
                            go_roundg k2
                            case measure => have := HK1.out; have := HK2.out; omega
                            case rel => exact ⟨(y348), (wrap64 (x16_2 + 1)), (by first | rfl | (simp; done) | (simp [*]; done) | (simp [isEmpty_ne]; done)), H', ⟨by have := HK1.out; have := HK2.out; omega⟩, ⟨by (with_reducible repeat (first | apply Kd.R_alloc | apply Kd.R_drewN | apply Kd.R_drew)); exact HO350.out⟩, ⟨by repeat (first | (with_reducible first | exact HB.out | apply below_alloc | apply pw_below_drewN | apply below_drew1) | exact HB.out)⟩⟩
                          · rw [if_neg c11] at H
                            exact absurd H (by simp)
                        · rw [if_neg c10] at H
                          have c10b0 : (sB_.toList == ([46, 46] : List UInt8)) = false := beq_eq_false_iff_ne.mpr c10
                          have c10b1 : (sB_.toList != ([46, 46] : List UInt8)) = true := bne_iff_ne.mpr c10
                          by_cases c13 : 0 < (sB_.size : Int)
                          · rw [if_pos c13] at H
                            have c13b0 : decide (0 < (sB_.size : Int)) = true := decide_eq_true c13
                            have c13b1 : decide (0 < sB_.size) = true := decide_eq_true (by omega)
                            clear c13
                            replace H := Option.bind_eq_some_iff.mp H
                            obtain ⟨t351, A150, H⟩ := H
                            replace H : (if 1 < (sB_.size : Int) then ((shot_half.f (bt sB_ 1)).bind fun t352 => (if x4_2.length < 140737488355328 then (shot_Read.l1 k2 a0 (x4_2 ++ [Go.bits .or .u8 ((t351 * 16) % 256) (Go.bits .and .u8 t352 15)]) x13_1 x13_1 (wrap64 (x16_2 + 1))) else (none))) else (none)) = some (r1, r2) := H
                            have A15 := Aside0.mk A150
                            clear A150
                            by_cases c16 : 1 < (sB_.size : Int)
                            · rw [if_pos c16] at H
                              have c16b0 : decide (1 < (sB_.size : Int)) = true := decide_eq_true c16
                              have c16b1 : decide (1 < sB_.size) = true := decide_eq_true (by omega)
                              clear c16
                              replace H := Option.bind_eq_some_iff.mp H
                              obtain ⟨t352, A180, H⟩ := H
                              replace H : (if x4_2.length < 140737488355328 then (shot_Read.l1 k2 a0 (x4_2 ++ [Go.bits .or .u8 ((t351 * 16) % 256) (Go.bits .and .u8 t352 15)]) x13_1 x13_1 (wrap64 (x16_2 + 1))) else (none)) = some (r1, r2) := H
                              have A18 := Aside0.mk A180
                              clear A180
                              by_cases c19 : x4_2.length < 140737488355328
                              · rw [if_pos c19] at H
                                have LMc19 := Aside0.mk c19
                                clear c19
                                obtain ⟨y353, hy353⟩ : ∃ y_ : List Int, y_ = (x4_2 ++ [Go.bits .or .u8 ((t351 * 16) % 256) (Go.bits .and .u8 t352 15)]) := ⟨_, rfl⟩
                                replace H : (shot_Read.l1 k2 a0 y353 x13_1 x13_1 (wrap64 (x16_2 + 1))) = some (r1, r2) := by first | (rw [hy353]; with_reducible exact H) | (have H2_ := (Option.bind_some _ _).symm.trans H; rw [hy353]; with_reducible exact H2_) | (have H2_ := (Option.bind_some _ _).symm.trans H; with_reducible exact H2_) | with_reducible exact H | (rw [hy353]; exact H) | exact H
                                have Ny353 := Aside0.mk hy353
                                clear hy353
                                have H' := Aside0.mk H
                                clear H
                                try go_wp2
                                have n0_ := Aside0.mk (Kd.R_drew HO_4.out)
                                have n1_ := Aside0.mk (below_drew1 HB.out)
                                clear HO_4
                                clear HB
                                have HO_4 := n0_
                                have HB := n1_
                                clear n0_ n1_
                                have p14 : 0 ≤ (0 : Int) := (by omega)
                                have q14 : 0 < sB_.size := (by have : (0 : Int) < (sB_.size : Int) := of_decide_eq_true (by first | (with_reducible assumption) | assumption); omega)
                                have hx14 : ∀ h : 0 < sB_.size, ((sB_[0]'h).toNat : Int) = bt sB_ 0 := bt_at sB_ 0
                                clear p14
                                have qi14 : (0 < (sB_.size : Int)) = True := eq_true (of_decide_eq_true (by first | (with_reducible assumption) | assumption))
                                replace q14 := eq_true q14
                                have p17 : 0 ≤ (1 : Int) := (by omega)
                                have q17 : 1 < sB_.size := (by have : (1 : Int) < (sB_.size : Int) := of_decide_eq_true (by first | (with_reducible assumption) | assumption); omega)
                                have hx17 : ∀ h : 1 < sB_.size, ((sB_[1]'h).toNat : Int) = bt sB_ 1 := bt_at sB_ 1
                                clear p17
                                have qi17 : (1 < (sB_.size : Int)) = True := eq_true (of_decide_eq_true (by first | (with_reducible assumption) | assumption))
                                replace q17 := eq_true q17
                                refine start_ (n := 13) (S := fun w' => True) (ds := []) #[false, false, false, false, false, false, false, false, false, false, false, false, false] (by kernel_rfl) rfl rfl trivial (fun hHeld => ?_); refine with_tabW shot_Read.tab13 shot_Read.bits13 (fun HT_ HW_ => ?_)
                                generalize wr.drew = w20 at HO_4 HB hHeld ⊢
                                refine pure_ (i := 0) (N := some 32) (v := ?_) (a' := ?_) #[true, false, false, false, false, false, false, false, false, false, false, false, false] rfl rfl (any_of HT_.out (by kernel_rfl)) (fun _ _ _ h => h) (Or.inl ⟨by rfl, ?_⟩) ?_ ?_
                                rotate_left
                                · intro w'
                                  go_simp
                                  with_reducible rfl
                                rotate_left
                                · simp only [Act.put, List.setIfInBounds_toArray, List.set_cons_zero, List.set_cons_succ, i64_w, i32_w]
                                  rfl
                                refine pure_ (i := 1) (N := some 33) (v := ?_) (a' := ?_) #[true, true, false, false, false, false, false, false, false, false, false, false, false] rfl rfl (any_of HT_.out (by kernel_rfl)) (fun _ _ _ h => h) (Or.inl ⟨by rfl, ?_⟩) ?_ ?_
                                rotate_left
                                · intro w'
                                  go_simp
                                  with_reducible rfl
                                rotate_left
                                · simp only [Act.put, List.setIfInBounds_toArray, List.set_cons_zero, List.set_cons_succ, i64_w, i32_w]
                                  rfl
                                refine pure_ (i := 5) (N := some 37) (v := ?_) (a' := ?_) #[true, true, false, false, false, true, false, false, false, false, false, false, false] rfl rfl (any_of HT_.out (by kernel_rfl)) (fun _ _ _ h => h) (Or.inl ⟨by rfl, ?_⟩) ?_ ?_
                                rotate_left
                                · intro w'
                                  go_simp
                                  with_reducible rfl
                                rotate_left
                                · simp only [Act.put, List.setIfInBounds_toArray, List.set_cons_zero, List.set_cons_succ, i64_w, i32_w]
                                  rfl
                                refine take_ (i := 2) (N := some 34) (v := ?_) (a' := ?_) #[true, true, true, false, false, true, false, false, false, false, false, false, false] rfl rfl (take_ofW HT_.out HW_.out (by kernel_rfl)) (fun _ _ _ h => h) (Or.inl ⟨by rfl, ?_⟩) hHeld ?_ ?_
                                rotate_left
                                · intro w' _
                                  go_simp
                                  with_reducible rfl
                                rotate_left
                                · simp only [Act.put, List.setIfInBounds_toArray, List.set_cons_zero, List.set_cons_succ, i64_w, i32_w]
                                  rfl
                                refine take_ (i := 6) (N := some 38) (v := ?_) (a' := ?_) #[true, true, true, false, false, true, true, false, false, false, false, false, false] rfl rfl (take_ofW HT_.out HW_.out (by kernel_rfl)) (fun _ _ _ h => h) (Or.inl ⟨by rfl, ?_⟩) hHeld ?_ ?_
                                rotate_left
                                · intro w' _
                                  go_simp
                                  with_reducible rfl
                                rotate_left
                                · simp only [Act.put, List.setIfInBounds_toArray, List.set_cons_zero, List.set_cons_succ, i64_w, i32_w]
                                  rfl
                                refine one_ (i := 3) (N := some 35) #[true, true, true, true, false, true, true, false, false, false, false, false, false] rfl rfl (one_of HT_.out (by kernel_rfl)) (by decide) (fun K hK => ?_)
                                refine goes_ Tryd.func34 (by kernel_rfl) rfl #[.int .u8 (bt sB_ 0)] (by rfl) rfl rfl (by (try simp only [List.map_toArray, List.map_cons, List.map_nil]); first | done | (simp only [hji5]; rfl) | rfl | (simp only [List.length_drop, List.length_take]; rfl)) ?_
                                with_reducible refine (shot_half.calls (bt sB_ 0) t351 _ A15.out).mono ?_
                                rintro e w' ⟨rfl, ⟨nd, rfl⟩⟩
                                refine ⟨_, rfl, ?_⟩
                                refine hK.out _ _ trivial (fun hHeld => ?_)
                                clear hK K
                                refine norm_ (a' := ?_) ?_ ?_
                                rotate_left
                                · show Act.put _ (some 35) _ = _
                                  simp only [Act.put, List.setIfInBounds_toArray, List.set_cons_zero, List.set_cons_succ, i64_w, i32_w]
                                  rfl
                                refine pure_ (i := 4) (N := some 36) (v := ?_) (a' := ?_) #[true, true, true, true, true, true, true, false, false, false, false, false, false] rfl rfl (any_of HT_.out (by kernel_rfl)) (fun _ _ _ h => h) (Or.inl ⟨by rfl, ?_⟩) ?_ ?_
                                rotate_left
                                · intro w'
                                  go_simp
                                  with_reducible rfl
                                rotate_left
                                · simp only [Act.put, List.setIfInBounds_toArray, List.set_cons_zero, List.set_cons_succ, i64_w, i32_w]
                                  rfl
                                refine one_ (i := 7) (N := some 39) #[true, true, true, true, true, true, true, true, false, false, false, false, false] rfl rfl (one_of HT_.out (by kernel_rfl)) (by decide) (fun K hK => ?_)
                                refine goes_ Tryd.func34 (by kernel_rfl) rfl #[.int .u8 (bt sB_ 1)] (by rfl) rfl rfl (by (try simp only [List.map_toArray, List.map_cons, List.map_nil]); first | done | (simp only [hji5]; rfl) | rfl | (simp only [List.length_drop, List.length_take]; rfl)) ?_
                                with_reducible refine (shot_half.calls (bt sB_ 1) t352 _ A18.out).mono ?_
                                rintro e w' ⟨rfl, ⟨nd, rfl⟩⟩
                                refine ⟨_, rfl, ?_⟩
                                refine hK.out _ _ trivial (fun hHeld => ?_)
                                clear hK K
                                refine norm_ (a' := ?_) ?_ ?_
                                rotate_left
                                · show Act.put _ (some 39) _ = _
                                  simp only [Act.put, List.setIfInBounds_toArray, List.set_cons_zero, List.set_cons_succ, i64_w, i32_w]
                                  rfl
                                refine pure_ (i := 8) (N := some 40) (v := ?_) (a' := ?_) #[true, true, true, true, true, true, true, true, true, false, false, false, false] rfl rfl (any_of HT_.out (by kernel_rfl)) (fun _ _ _ h => h) (Or.inl ⟨by rfl, ?_⟩) ?_ ?_
                                rotate_left
                                · intro w'
                                  go_simp
                                  with_reducible rfl
                                rotate_left
                                · simp only [Act.put, List.setIfInBounds_toArray, List.set_cons_zero, List.set_cons_succ, i64_w, i32_w]
                                  rfl
                                refine pure_ (i := 9) (N := some 41) (v := ?_) (a' := ?_) #[true, true, true, true, true, true, true, true, true, true, false, false, false] rfl rfl (any_of HT_.out (by kernel_rfl)) (fun _ _ _ h => h) (Or.inl ⟨by rfl, ?_⟩) ?_ ?_
                                rotate_left
                                · intro w'
                                  go_simp
                                  with_reducible rfl
                                rotate_left
                                · simp only [Act.put, List.setIfInBounds_toArray, List.set_cons_zero, List.set_cons_succ, i64_w, i32_w]
                                  rfl
                                refine one_ (i := 10) (N := some 42) #[true, true, true, true, true, true, true, true, true, true, true, false, false] rfl rfl (one_of HT_.out (by kernel_rfl)) (by decide) (fun K hK => ?_)
                                refine value_ (w1 := ?_) (v := ?_) (by rfl) rfl ?_ ?_
                                rotate_left 2
                                · go_simp
                                  constructor
                                  · rfl
                                  · rfl
                                refine hK.out _ _ trivial (fun hHeld => ?_)
                                clear hK K
                                refine norm_ (a' := ?_) ?_ ?_
                                rotate_left
                                · show Act.put _ (some 42) _ = _
                                  simp only [Act.put, List.setIfInBounds_toArray, List.set_cons_zero, List.set_cons_succ, i64_w, i32_w]
                                  rfl
                                refine one_ (i := 11) (N := some 43) #[true, true, true, true, true, true, true, true, true, true, true, true, false] rfl rfl (one_of HT_.out (by kernel_rfl)) (by decide) (fun K hK => ?_)
                                refine Kd.R_append_step (Kd.int .u8) (w0 := w) w.heap.size (by rfl) (.tmp 32) (.tmp 42) 24 5 (.int .u8 0) 1 rfl Tryd.underlying24 info5 rfl (by decide) (by omega) u4 x4_2 (Go.bits .or .u8 ((t351 * 16) % 256) (Go.bits .and .u8 t352 15)) [.int .u8 (Go.bits .or .u8 ((t351 * 16) % 256) (Go.bits .and .u8 t352 15))] (fun _ => True) (fun _ => False) rfl rfl ?aP (fun _ hk => hk.elim) ?aF ?aO ?aB ?aS ?aL ?_
                                (case aP => exact rfl)
                                (case aB => exact (by repeat (first | (with_reducible first | exact HB.out | apply below_alloc | apply pw_below_drewN | apply below_drew1) | exact HB.out)))
                                (case aF => exact (fun _ _ => trivial))
                                (case aO => exact (by (with_reducible repeat (first | apply Kd.R_alloc | apply Kd.R_drewN | apply Kd.R_drew)); exact HO_4.out))
                                (case aS => exact (below_size (by repeat (first | (with_reducible first | exact HB.out | apply below_alloc | apply pw_below_drewN | apply below_drew1) | exact HB.out))))
                                (case aL => have := LMc19.out; omega)
                                intro v354 w21 ho hb hg hat
                                rw [← Ny353.out] at ho
                                have n0_ := Aside0.mk (hb)
                                have n1_ := Aside0.mk (ho)
                                clear HB
                                clear HO_4
                                have HB := n0_
                                have HO355 := n1_
                                clear n0_ n1_
                                clear ho hb hg hat
                                refine hK.out _ _ trivial (fun hHeld => ?_)
                                clear hK K
                                refine norm_ (a' := ?_) ?_ ?_
                                rotate_left
                                · show Act.put _ (some 43) _ = _
                                  simp only [Act.put, List.setIfInBounds_toArray, List.set_cons_zero, List.set_cons_succ, i64_w, i32_w]
                                  rfl
                                refine pure_ (i := 12) (N := some 4) (v := ?_) (a' := ?_) #[true, true, true, true, true, true, true, true, true, true, true, true, true] rfl rfl (any_of HT_.out (by kernel_rfl)) (fun _ _ _ h => h) (Or.inl ⟨by rfl, ?_⟩) ?_ ?_
                                rotate_left
                                · intro w'
                                  go_simp
                                  with_reducible rfl
                                rotate_left
                                · simp only [Act.put, List.setIfInBounds_toArray, List.set_cons_zero, List.set_cons_succ, i64_w, i32_w]
                                  rfl
                                refine done_ (done_of HT_.out (by kernel_rfl)) ?_
                                try go_wp2
                                go_roundg k2
                                case measure => have := HK1.out; have := HK2.out; omega
                                case rel => exact ⟨(y353), (wrap64 (x16_2 + 1)), (by first | rfl | (simp; done) | (simp [*]; done) | (simp [isEmpty_ne]; done)), H', ⟨by have := HK1.out; have := HK2.out; omega⟩, ⟨by (with_reducible repeat (first | apply Kd.R_alloc | apply Kd.R_drewN | apply Kd.R_drew)); exact HO355.out⟩, ⟨by repeat (first | (with_reducible first | exact HB.out | apply below_alloc | apply pw_below_drewN | apply below_drew1) | exact HB.out)⟩⟩
                              · rw [if_neg c19] at H
                                exact absurd H (by simp)
                            · rw [if_neg c16] at H
                              exact absurd H (by simp)
                          · rw [if_neg c13] at H
                            exact absurd H (by simp)
                      · rw [if_neg c9] at H
                        exact absurd H (by simp)
                    · rw [if_neg c8] at H
                      exact absurd H (by simp)
                  · rw [if_neg c7] at H
                    exact absurd H (by simp)
                · rw [if_neg c6] at H
                  exact absurd H (by simp)
              · rw [if_neg c4] at H
                have c4b0 : decide (x16_2 < 64) = false := decide_eq_false c4
                clear c4
                have H' := Aside0.mk H
                clear H
                go_wp2
                go_roundg k2
                case measure => have := HK1.out; have := HK2.out; omega
                case rel => exact ⟨(x4_2), (wrap64 (x13_1 + 1)), (by first | rfl | (simp; done) | (simp [*]; done) | (simp [isEmpty_ne]; done)), H', ⟨by have := HK1.out; have := HK2.out; omega⟩, ⟨by (with_reducible repeat (first | apply Kd.R_alloc | apply Kd.R_drewN | apply Kd.R_drew)); exact HO_4.out⟩, ⟨by repeat (first | (with_reducible first | exact HB.out | apply below_alloc | apply pw_below_drewN | apply below_drew1) | exact HB.out)⟩⟩
        · rw [if_neg c3] at H
          have c3b0 : decide (x13_1 < 48) = false := decide_eq_false c3
          clear c3
          replace H := Option.bind_eq_some_iff.mp H
          obtain ⟨⟨t346, t347⟩, A220, H⟩ := H
          replace H : (if t346.toList = a0.toList then (some (x4_1, 0)) else (some (([] : List Int), 2))) = some (r1, r2) := H
          have A22 := Aside0.mk A220
          clear A220
          by_cases c23 : t346.toList = a0.toList
          · rw [if_pos c23] at H
            have c23b0 : (t346.toList == a0.toList) = true := beq_iff_eq.mpr c23
            have c23b1 : (t346.toList != a0.toList) = false := bne_eq_false_iff_eq.mpr c23
            clear c23
            simp only [Option.some.injEq, Prod.mk.injEq] at H
            obtain ⟨rfl, rfl⟩ := H
            obtain ⟨Ao24, co24, eo24⟩ := Kd.R_slice HO_4.out
            subst eo24
            go_wp2_with (first | ((with_reducible refine gate_callee (f := 17) rfl ?_); refine goesL_ (some 48) rfl rfl Tryd.func17 (by kernel_rfl) rfl #[.slice Ao24 x4_1.length co24] rfl (by (try simp only [List.map_toArray, List.map_cons, List.map_nil]); first | done | rfl | (simp only [List.length_drop, List.length_take]; rfl)) ?_; (with_reducible refine (shot_Art.calls k1 _ _ x4_1 t346 t347 _ ?side1 ?side2 A22.out).mono ?_); (case side1 => repeat (first | exact (Kd.R_reads' HO_4.out).2.2 | (with_reducible refine Kd.C_alloc ?_ _) | (with_reducible refine Kd.C_drewN ?_ _) | (with_reducible refine Kd.C_drew ?_))); (case side2 => exact (Kd.R_reads' HO_4.out).2.1); rintro e w25 ⟨rfl, hb⟩; refine ⟨_, rfl, ?_⟩; have n0_ := Aside0.mk (Kd.R_below (by (with_reducible repeat (first | apply Kd.R_alloc | apply Kd.R_drewN | apply Kd.R_drew)); exact HO_4.out) hb); have n1_ := Aside0.mk (below_step (by repeat (first | (with_reducible first | exact HB.out | apply below_alloc | apply pw_below_drewN | apply below_drew1) | exact HB.out)) hb); clear HO_4; clear HB; have HO_4 := n0_; have HB := n1_; clear n0_ n1_; (try clear hb); (try clear hb2); (try clear hk); (try clear hi)))
            go_ret2
            exact ⟨_, by first | rfl | (simp [errW_none, errW_some] <;> rfl) | (simp [*, errW_none, errW_some] <;> rfl), by (with_reducible repeat (first | apply Kd.R_alloc | apply Kd.R_drewN | apply Kd.R_drew)); exact HO_4.out, by repeat (first | (with_reducible first | exact HB.out | apply below_alloc | apply pw_below_drewN | apply below_drew1) | exact HB.out)⟩
          · rw [if_neg c23] at H
            have c23b0 : (t346.toList == a0.toList) = false := beq_eq_false_iff_ne.mpr c23
            have c23b1 : (t346.toList != a0.toList) = true := bne_iff_ne.mpr c23
            simp only [Option.some.injEq, Prod.mk.injEq] at H
            obtain ⟨rfl, rfl⟩ := H
            obtain ⟨Ao26, co26, eo26⟩ := Kd.R_slice HO_4.out
            subst eo26
            go_wp2_with (first | ((with_reducible refine gate_callee (f := 17) rfl ?_); refine goesL_ (some 48) rfl rfl Tryd.func17 (by kernel_rfl) rfl #[.slice Ao26 x4_1.length co26] rfl (by (try simp only [List.map_toArray, List.map_cons, List.map_nil]); first | done | rfl | (simp only [List.length_drop, List.length_take]; rfl)) ?_; (with_reducible refine (shot_Art.calls k1 _ _ x4_1 t346 t347 _ ?side1 ?side2 A22.out).mono ?_); (case side1 => repeat (first | exact (Kd.R_reads' HO_4.out).2.2 | (with_reducible refine Kd.C_alloc ?_ _) | (with_reducible refine Kd.C_drewN ?_ _) | (with_reducible refine Kd.C_drew ?_))); (case side2 => exact (Kd.R_reads' HO_4.out).2.1); rintro e w27 ⟨rfl, hb⟩; refine ⟨_, rfl, ?_⟩; have n0_ := Aside0.mk (Kd.R_below (by (with_reducible repeat (first | apply Kd.R_alloc | apply Kd.R_drewN | apply Kd.R_drew)); exact HO_4.out) hb); have n1_ := Aside0.mk (below_step (by repeat (first | (with_reducible first | exact HB.out | apply below_alloc | apply pw_below_drewN | apply below_drew1) | exact HB.out)) hb); clear HO_4; clear HB; have HO_4 := n0_; have HB := n1_; clear n0_ n1_; (try clear hb); (try clear hb2); (try clear hk); (try clear hi)))
            go_ret2
            exact ⟨_, by first | rfl | (simp [errW_none, errW_some] <;> rfl) | (simp [*, errW_none, errW_some] <;> rfl), by first | exact Kd.R_nil _ _ _ _ _ | exact Kd.N_nil _ _ _ _ _ | exact Kd.V_nil _ _ _ _ _ | exact Kd.Q_nil _ _ _ _ _ | exact Kd.S_nil _ _ _ _ _, by repeat (first | (with_reducible first | exact HB.out | apply below_alloc | apply pw_below_drewN | apply below_drew1) | exact HB.out)⟩
  · rw [if_neg c2] at H
    have c2b0 : ((a0.size : Int) == 6192) = false := beq_eq_false_iff_ne.mpr c2
    have c2b1 : ((a0.size : Int) != 6192) = true := bne_iff_ne.mpr c2
    simp only [Option.some.injEq, Prod.mk.injEq] at H
    obtain ⟨rfl, rfl⟩ := H
    go_enter Tryd.func18, Tryd.ntmps18
    go_wp2
    go_ret2
    exact ⟨_, by first | rfl | (simp [errW_none, errW_some] <;> rfl) | (simp [*, errW_none, errW_some] <;> rfl), by first | exact Kd.R_nil _ _ _ _ _ | exact Kd.N_nil _ _ _ _ _ | exact Kd.V_nil _ _ _ _ _ | exact Kd.Q_nil _ _ _ _ _ | exact Kd.S_nil _ _ _ _ _, by repeat (first | (with_reducible first | exact HB.out | apply below_alloc | apply pw_below_drewN | apply below_drew1) | exact HB.out)⟩

-- NOT PRINTED: function 5 (wisplaw20_ShotNames)

end Go.Proofs.YtpjdgndbcjinjaaDoor.P
