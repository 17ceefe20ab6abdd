/- Printed by a program of this session (it turns the kit's print): see wip/myprint. -/
import Derived.Test.YtembdahclmffjaaPx0
import Derived.Test.YtembdahclmffjaaPx1
import Derived.Test.YtembdahclmffjaaPx2
import Derived.Test.YtembdahclmffjaaPx4
import Derived.Test.YtembdahclmffjaaPx7
namespace Go.Proofs.Ytembdahclmffjaa.P
open Go.RowKit Go.Proofs.YtembdahclmffjaaW.PrintWords Go.Proofs.YtembdahclmffjaaW.PrintLast Go.Proofs.YtembdahclmffjaaW.PrintMore Go.Proofs.Ytembdahclmffjaa.Mine
attribute [local go_sem] max2_int min2_int max_two min_two max_three min_three max_four min_four   -- for this text's walks alone
set_option linter.unusedVariables false
set_option linter.unusedSimpArgs false

attribute [local go_sem high] eqA24 eqA30
/-! ### token_End: function 12 -/
def token_End.f (k : Nat) (a0 : ByteArray) : Option (Int × Int) := (token_place.f k a0 (a0.size : Int)).bind fun bt163 => (some (bt163.1, bt163.2))
theorem token_End.mono : ∀ a0 k, LeO (token_End.f k a0) (token_End.f (k + 1) a0) := by
  intro a0 k
  unfold token_End.f
  repeat' first
      | (with_reducible exact token_place.mono _ _ _)
      | (with_reducible exact LeO.refl _)
      | (with_reducible exact LeO.none _)
      | (with_reducible refine LeO.ite ?_ ?_)
      | (with_reducible refine LeO.bind ?_ (fun _ => ?_))
      | exact token_place.mono _ _ _
      | exact LeO.none _
      | refine LeO.ite ?_ ?_
      | refine LeO.bind ?_ (fun _ => ?_)
set_option maxHeartbeats 8000000 in
set_option maxRecDepth 100000 in
theorem token_End.calls (k : Nat) (a0 : ByteArray) (r1 : Int) (r2 : Int) (w : World) (h : token_End.f k a0 = some (r1, r2)) :
    Calls Try.prog 12 #[.string a0] w fun e w' => e = .returned (.agg #[.int .i64 r1, .int .i64 r2]) ∧ Below w.heap.size w w' := by
  have hu24 := Try.underlying24
  have HB := Aside0.mk (Below.refl w.heap.size w)
  have H : ((token_place.f k a0 (a0.size : Int)).bind fun bt163 => (some (bt163.1, bt163.2))) = some (r1, r2) := h
  clear h
  replace H := Option.bind_eq_some_iff.mp H
  obtain ⟨⟨t163, t164⟩, A20, H⟩ := H
  replace H : (some (t163, t164)) = some (r1, r2) := H
  have A2 := Aside0.mk A20
  clear A20
  simp only [Option.some.injEq, Prod.mk.injEq] at H
  obtain ⟨rfl, rfl⟩ := H
  go_enter Try.func12, Try.ntmps12
  go_wp2_with (first | ((with_reducible refine gate_dst (N := 2) rfl ?_); refine box_event ?hg (N := 2) ?hd (cs := #[.int .i64 0, .int .i64 0]) (t := 24) ?hr ?_; (case hd => rfl); (case hg => rfl); (case hr => first | (go_simp; done) | (go_simp; rfl)); intro gb162 hg w3 hbox hb; have n0_ := Aside0.mk (below_step (by repeat (first | (with_reducible first | exact HB.out | apply below_alloc | apply pw_below_drewN | apply below_drew1) | exact HB.out)) hb); have n1_ := Aside0.mk (hbox); have n2_ := Aside0.mk ((by rw [hg]; exact (below_size (by repeat (first | (with_reducible first | exact HB.out | apply below_alloc | apply pw_below_drewN | apply below_drew1) | exact HB.out))) : w.heap.size ≤ gb162)); have n3_ := Aside0.mk ((by rw [hg]; exact (below_size (by repeat (first | (with_reducible first | exact HB.out | apply below_alloc | apply pw_below_drewN | apply below_drew1) | exact HB.out))) : w.heap.size ≤ gb162)); clear HB; have HB := n0_; have BK162 := n1_; have GW162 := n2_; have GE162 := n3_; clear n0_ n1_ n2_ n3_; clear hb hbox hg) | ((with_reducible refine gate_callee (f := 21) rfl ?_); refine goesL_ (some 6) rfl rfl Try.func21 (by kernel_rfl) rfl #[.string a0, .int .i64 (a0.size : Int)] rfl (by (try simp only [List.map_toArray, List.map_cons, List.map_nil]); first | done | rfl | (simp only [List.length_drop, List.length_take]; rfl)) ?_; (with_reducible refine (token_place.calls k a0 (a0.size : Int) t163 t164 _ A2.out).mono ?_); rintro e w4 ⟨rfl, hb⟩; refine ⟨_, rfl, ?_⟩; have n0_ := Aside0.mk (blk_below (g := gb162) (o := .cells #[.int .i64 0, .int .i64 0] 24 (0, 0)) (by (with_reducible repeat (first | refine blk_drewN ?_ _ | refine blk_drew ?_ | refine blk_alloc ?_ _)); exact BK162.out) hb); have n1_ := Aside0.mk (below_step (by repeat (first | (with_reducible first | exact HB.out | apply below_alloc | apply pw_below_drewN | apply below_drew1 | refine below_set ?_ GE162.out) | exact HB.out)) hb); clear BK162; clear HB; have BK162 := n0_; have HB := n1_; clear n0_ n1_; (try clear hb); (try clear hb2); (try clear hk); (try clear hi); have hcz5_0 : w4.cell? ⟨gb162, 0, none⟩ = some (.int .i64 0) := (blk_cell BK162.out 0).trans rfl; have hcz5_1 : w4.cell? ⟨gb162, 1, none⟩ = some (.int .i64 0) := (blk_cell BK162.out 1).trans rfl; have hfz5_0 := blk_frozen BK162.out 0; have hfz5_1 := blk_frozen BK162.out 1))
  refine bodyPost_ret (results_cell_row rfl _ _ gb162 24 #[.int .i64 t163, .int .i64 t164] (0, 0) _ rfl (by (with_reducible repeat (first | refine blk_drewN ?_ _ | refine blk_drew ?_ | refine blk_alloc ?_ _)); refine blk_put (cs := #[.int .i64 t163, .int .i64 0]) ?_ 1 _ rfl; (with_reducible repeat (first | refine blk_drewN ?_ _ | refine blk_drew ?_ | refine blk_alloc ?_ _)); refine blk_put (cs := #[.int .i64 0, .int .i64 0]) ?_ 0 _ rfl; (with_reducible repeat (first | refine blk_drewN ?_ _ | refine blk_drew ?_ | refine blk_alloc ?_ _)); exact BK162.out) Try.underlying24 rfl (by kernel_rfl)) rfl ?_
  exact ⟨by first | rfl | (simp [errW_none, errW_some] <;> rfl) | (simp [*, errW_none, errW_some] <;> rfl), by repeat (first | (with_reducible first | exact HB.out | apply below_alloc | apply pw_below_drewN | apply below_drew1 | refine below_set ?_ GE162.out) | exact HB.out)⟩

/-! ### wisplaw09_fixed: function 9 -/
def wisplaw09_fixed.f (k : Nat)  : Option (Bool) := (token_Scan.f k (⟨#[58, 32, 97, 32, 49, 32, 43, 32, 59]⟩ : ByteArray)).bind fun bt165 => ((token_End.f k (⟨#[58, 32, 97, 32, 49, 32, 43, 32, 59]⟩ : ByteArray)).bind fun bt172 => (if bt165.2.2.2 = 0 then (if (!(bt165.2.1 == 0) || (!(bt165.2.2.1 == 0))) = true then (some false) else (if (bt165.1.length : Int) = 5 then (if (!(bt172.1 == 1) || (!(bt172.2 == 10))) = true then (some false) else (if 0 < (bt165.1.length : Int) then (if (((rd_T30 bt165.1 0).f0) == 1 && ((((rd_T30 bt165.1 0).f1).toList) == ([58] : List UInt8) && (((rd_T30 bt165.1 0).f2) == 0 && ((((rd_T30 bt165.1 0).f3.f0) == 1 && (((rd_T30 bt165.1 0).f3.f1) == 1)))))) = true then (if 2 < (bt165.1.length : Int) then (some (((rd_T30 bt165.1 2).f0) == 2 && ((((rd_T30 bt165.1 2).f1).toList) == ([49] : List UInt8) && (((rd_T30 bt165.1 2).f2) == 1 && ((((rd_T30 bt165.1 2).f3.f0) == 1 && (((rd_T30 bt165.1 2).f3.f1) == 5))))))) else (none)) else (some false)) else (none))) else (some false))) else (some false)))
theorem wisplaw09_fixed.mono : ∀ k, LeO (wisplaw09_fixed.f k ) (wisplaw09_fixed.f (k + 1) ) := by
  intro  k
  unfold wisplaw09_fixed.f
  repeat' first
      | (with_reducible exact token_End.mono _ _)
      | (with_reducible exact token_Scan.mono _ _)
      | (with_reducible exact LeO.refl _)
      | (with_reducible exact LeO.none _)
      | (with_reducible refine LeO.ite ?_ ?_)
      | (with_reducible refine LeO.bind ?_ (fun _ => ?_))
      | exact token_End.mono _ _
      | exact token_Scan.mono _ _
      | exact LeO.none _
      | refine LeO.ite ?_ ?_
      | refine LeO.bind ?_ (fun _ => ?_)
set_option maxHeartbeats 8000000 in
set_option maxRecDepth 100000 in
theorem wisplaw09_fixed.calls (k : Nat)  (r : Bool) (w : World) (h : wisplaw09_fixed.f k  = some r) :
    Calls Try.prog 9 #[] w fun e w' => e = .returned (.bool r) ∧ Below w.heap.size w w' := by
  have hu24 := Try.underlying24
  have hu30 := Try.underlying30
  have HB := Aside0.mk (Below.refl w.heap.size w)
  have H : ((token_Scan.f k (⟨#[58, 32, 97, 32, 49, 32, 43, 32, 59]⟩ : ByteArray)).bind fun bt165 => ((token_End.f k (⟨#[58, 32, 97, 32, 49, 32, 43, 32, 59]⟩ : ByteArray)).bind fun bt172 => (if bt165.2.2.2 = 0 then (if (!(bt165.2.1 == 0) || (!(bt165.2.2.1 == 0))) = true then (some false) else (if (bt165.1.length : Int) = 5 then (if (!(bt172.1 == 1) || (!(bt172.2 == 10))) = true then (some false) else (if 0 < (bt165.1.length : Int) then (if (((rd_T30 bt165.1 0).f0) == 1 && ((((rd_T30 bt165.1 0).f1).toList) == ([58] : List UInt8) && (((rd_T30 bt165.1 0).f2) == 0 && ((((rd_T30 bt165.1 0).f3.f0) == 1 && (((rd_T30 bt165.1 0).f3.f1) == 1)))))) = true then (if 2 < (bt165.1.length : Int) then (some (((rd_T30 bt165.1 2).f0) == 2 && ((((rd_T30 bt165.1 2).f1).toList) == ([49] : List UInt8) && (((rd_T30 bt165.1 2).f2) == 1 && ((((rd_T30 bt165.1 2).f3.f0) == 1 && (((rd_T30 bt165.1 2).f3.f1) == 5))))))) else (none)) else (some false)) else (none))) else (some false))) else (some false)))) = some r := h
  clear h
  replace H := Option.bind_eq_some_iff.mp H
  obtain ⟨⟨t165, t168, t169, t170⟩, A10, H⟩ := H
  replace H : ((token_End.f k (⟨#[58, 32, 97, 32, 49, 32, 43, 32, 59]⟩ : ByteArray)).bind fun bt172 => (if t170 = 0 then (if (!(t168 == 0) || (!(t169 == 0))) = true then (some false) else (if (t165.length : Int) = 5 then (if (!(bt172.1 == 1) || (!(bt172.2 == 10))) = true then (some false) else (if 0 < (t165.length : Int) then (if (((rd_T30 t165 0).f0) == 1 && ((((rd_T30 t165 0).f1).toList) == ([58] : List UInt8) && (((rd_T30 t165 0).f2) == 0 && ((((rd_T30 t165 0).f3.f0) == 1 && (((rd_T30 t165 0).f3.f1) == 1)))))) = true then (if 2 < (t165.length : Int) then (some (((rd_T30 t165 2).f0) == 2 && ((((rd_T30 t165 2).f1).toList) == ([49] : List UInt8) && (((rd_T30 t165 2).f2) == 1 && ((((rd_T30 t165 2).f3.f0) == 1 && (((rd_T30 t165 2).f3.f1) == 5))))))) else (none)) else (some false)) else (none))) else (some false))) else (some false))) = some r := H
  have A1 := Aside0.mk A10
  clear A10
  replace H := Option.bind_eq_some_iff.mp H
  obtain ⟨⟨t172, t173⟩, A20, H⟩ := H
  replace H : (if t170 = 0 then (if (!(t168 == 0) || (!(t169 == 0))) = true then (some false) else (if (t165.length : Int) = 5 then (if (!(t172 == 1) || (!(t173 == 10))) = true then (some false) else (if 0 < (t165.length : Int) then (if (((rd_T30 t165 0).f0) == 1 && ((((rd_T30 t165 0).f1).toList) == ([58] : List UInt8) && (((rd_T30 t165 0).f2) == 0 && ((((rd_T30 t165 0).f3.f0) == 1 && (((rd_T30 t165 0).f3.f1) == 1)))))) = true then (if 2 < (t165.length : Int) then (some (((rd_T30 t165 2).f0) == 2 && ((((rd_T30 t165 2).f1).toList) == ([49] : List UInt8) && (((rd_T30 t165 2).f2) == 1 && ((((rd_T30 t165 2).f3.f0) == 1 && (((rd_T30 t165 2).f3.f1) == 5))))))) else (none)) else (some false)) else (none))) else (some false))) else (some false)) = some r := H
  have A2 := Aside0.mk A20
  clear A20
  by_cases c3 : t170 = 0
  · rw [if_pos c3] at H
    have c3b0 : (t170 == 0) = true := beq_iff_eq.mpr c3
    have c3b1 : (t170 != 0) = false := bne_eq_false_iff_eq.mpr c3
    clear c3
    by_cases c4 : (!(t168 == 0) || (!(t169 == 0))) = true
    · rw [if_pos c4] at H
      have c4b0 : (!(t168 == 0) || (!(t169 == 0))) = true := c4
      clear c4
      obtain rfl := Option.some.inj H
      go_enter Try.func9, Try.ntmps9
      go_wp2_with (first | ((with_reducible refine gate_callee (f := 8) rfl ?_); refine goesL_ (some 6) rfl rfl Try.func8 (by kernel_rfl) rfl #[.string (⟨#[58, 32, 97, 32, 49, 32, 43, 32, 59]⟩ : ByteArray)] rfl (by (try simp only [List.map_toArray, List.map_cons, List.map_nil]); first | done | rfl | (simp only [List.length_drop, List.length_take]; rfl)) ?_; (with_reducible refine (token_Scan.calls k (⟨#[58, 32, 97, 32, 49, 32, 43, 32, 59]⟩ : ByteArray) t165 t168 t169 t170 _ A1.out).mono ?_); rintro e w5 ⟨v166, rfl, ho0, hb⟩; refine ⟨_, rfl, ?_⟩; have n0_ := Aside0.mk (Kd.R_lower ho0 (below_size (by repeat (first | (with_reducible first | exact HB.out | apply below_alloc | apply pw_below_drewN | apply below_drew1) | exact HB.out)))); have n1_ := Aside0.mk (below_step (by repeat (first | (with_reducible first | exact HB.out | apply below_alloc | apply pw_below_drewN | apply below_drew1) | exact HB.out)) hb); clear HB; have HO167 := n0_; have HB := n1_; clear n0_ n1_; (try clear hb); (try clear hb2); (try clear hk); (try clear hi); (try clear ho0)) | ((with_reducible refine gate_dst (N := 2) rfl ?_); (try (refine gate_guard (by rfl) ?_; dsimp only)); refine box_event ?hg (N := 2) ?hd (cs := #[.int .i64 0, .int .i64 0]) (t := 24) ?hr ?_; (case hd => rfl); (case hg => rfl); (case hr => first | (go_simp; done) | (go_simp; rfl)); intro gb171 hg w6 hbox hb; have n0_ := Aside0.mk (Kd.R_below (by (with_reducible repeat (first | apply Kd.R_alloc | apply Kd.R_drewN | apply Kd.R_drew)); exact HO167.out) hb); have n1_ := Aside0.mk (below_step (by repeat (first | (with_reducible first | exact HB.out | apply below_alloc | apply pw_below_drewN | apply below_drew1) | exact HB.out)) hb); have n2_ := Aside0.mk (hbox); have n3_ := Aside0.mk ((by rw [hg]; exact (below_size (by repeat (first | (with_reducible first | exact HB.out | apply below_alloc | apply pw_below_drewN | apply below_drew1) | exact HB.out))) : w.heap.size ≤ gb171)); have n4_ := Aside0.mk ((by rw [hg]; exact (below_size (by repeat (first | (with_reducible first | exact HB.out | apply below_alloc | apply pw_below_drewN | apply below_drew1) | exact HB.out))) : w.heap.size ≤ gb171)); clear HO167; clear HB; have HO167 := n0_; have HB := n1_; have BK171 := n2_; have GW171 := n3_; have GE171 := n4_; clear n0_ n1_ n2_ n3_ n4_; clear hb hbox hg; have hcz7_0 : w6.cell? ⟨gb171, 0, none⟩ = some (.int .i64 0) := (blk_cell BK171.out 0).trans rfl; have hcz7_1 : w6.cell? ⟨gb171, 1, none⟩ = some (.int .i64 0) := (blk_cell BK171.out 1).trans rfl; have hfz7_0 := blk_frozen BK171.out 0; have hfz7_1 := blk_frozen BK171.out 1) | ((with_reducible refine gate_callee (f := 12) rfl ?_); refine goesL_ (some 10) rfl rfl Try.func12 (by kernel_rfl) rfl #[.string (⟨#[58, 32, 97, 32, 49, 32, 43, 32, 59]⟩ : ByteArray)] rfl (by (try simp only [List.map_toArray, List.map_cons, List.map_nil]); first | done | rfl | (simp only [List.length_drop, List.length_take]; rfl)) ?_; (with_reducible refine (token_End.calls k (⟨#[58, 32, 97, 32, 49, 32, 43, 32, 59]⟩ : ByteArray) t172 t173 _ A2.out).mono ?_); rintro e w8 ⟨rfl, hb⟩; refine ⟨_, rfl, ?_⟩; have n0_ := Aside0.mk (Kd.R_below (by (with_reducible repeat (first | apply Kd.R_alloc | apply Kd.R_drewN | apply Kd.R_drew)); exact (Kd.R_mono (Kd.R_far (p := ⟨gb171, 1, none⟩) (Kd.R_far (p := ⟨gb171, 0, none⟩) (Kd.R_types HO167.out BK171.out (by decide)) (fun _ hk => hk.2) (.int .i64 t168)) (fun _ hk => hk.2) (.int .i64 t169)) (fun _ h_ => h_.1))) hb); have n1_ := Aside0.mk (blk_below (g := gb171) (o := .cells #[.int .i64 t168, .int .i64 t169] 24 (0, 0)) (by (with_reducible repeat (first | refine blk_drewN ?_ _ | refine blk_drew ?_ | refine blk_alloc ?_ _)); refine blk_put (cs := #[.int .i64 t168, .int .i64 0]) ?_ 1 _ rfl; (with_reducible repeat (first | refine blk_drewN ?_ _ | refine blk_drew ?_ | refine blk_alloc ?_ _)); refine blk_put (cs := #[.int .i64 0, .int .i64 0]) ?_ 0 _ rfl; (with_reducible repeat (first | refine blk_drewN ?_ _ | refine blk_drew ?_ | refine blk_alloc ?_ _)); exact BK171.out) hb); have n2_ := Aside0.mk (below_step (by repeat (first | (with_reducible first | exact HB.out | apply below_alloc | apply pw_below_drewN | apply below_drew1 | refine below_set ?_ GE171.out) | exact HB.out)) hb); clear HO167; clear BK171; clear HB; have HO167 := n0_; have BK171 := n1_; have HB := n2_; clear n0_ n1_ n2_; (try clear hb); (try clear hb2); (try clear hk); (try clear hi)) | ((with_reducible refine gate_dst (N := 4) rfl ?_); (try (refine gate_guard (by rfl) ?_; dsimp only)); refine box_event ?hg (N := 4) ?hd (cs := #[.int .i64 0, .int .i64 0]) (t := 24) ?hr ?_; (case hd => rfl); (case hg => rfl); (case hr => first | (go_simp; done) | (go_simp; rfl)); intro gb174 hg w9 hbox hb; have n0_ := Aside0.mk (Kd.R_below (by (with_reducible repeat (first | apply Kd.R_alloc | apply Kd.R_drewN | apply Kd.R_drew)); exact HO167.out) hb); have n1_ := Aside0.mk (blk_below (g := gb171) (o := .cells #[.int .i64 t168, .int .i64 t169] 24 (0, 0)) (by (with_reducible repeat (first | refine blk_drewN ?_ _ | refine blk_drew ?_ | refine blk_alloc ?_ _)); exact BK171.out) hb); have n2_ := Aside0.mk (below_step (by repeat (first | (with_reducible first | exact HB.out | apply below_alloc | apply pw_below_drewN | apply below_drew1 | refine below_set ?_ GE171.out) | exact HB.out)) hb); have n3_ := Aside0.mk (hbox); have n4_ := Aside0.mk ((by rw [hg]; exact (below_size (by repeat (first | (with_reducible first | exact HB.out | apply below_alloc | apply pw_below_drewN | apply below_drew1 | refine below_set ?_ GE171.out) | exact HB.out))) : w.heap.size ≤ gb174)); have n5_ := Aside0.mk ((by rw [hg]; exact (below_size (by repeat (first | (with_reducible first | exact HB.out | apply below_alloc | apply pw_below_drewN | apply below_drew1 | refine below_set ?_ GE171.out) | exact HB.out))) : w.heap.size ≤ gb174)); have n6_ := Aside0.mk ((by rw [hg]; exact Nat.ne_of_lt (blk_lt (g := gb171) (o := .cells #[.int .i64 t168, .int .i64 t169] 24 (0, 0)) (by (with_reducible repeat (first | refine blk_drewN ?_ _ | refine blk_drew ?_ | refine blk_alloc ?_ _)); exact BK171.out)) : gb171 ≠ gb174)); have n7_ := Aside0.mk ((by rw [hg]; exact Nat.ne_of_gt (blk_lt (g := gb171) (o := .cells #[.int .i64 t168, .int .i64 t169] 24 (0, 0)) (by (with_reducible repeat (first | refine blk_drewN ?_ _ | refine blk_drew ?_ | refine blk_alloc ?_ _)); exact BK171.out)) : gb174 ≠ gb171)); clear HO167; clear BK171; clear HB; have HO167 := n0_; have BK171 := n1_; have HB := n2_; have BK174 := n3_; have GW174 := n4_; have GE174 := n5_; have NB171_174 := n6_; have NB174_171 := n7_; clear n0_ n1_ n2_ n3_ n4_ n5_ n6_ n7_; clear hb hbox hg; have hnb10 := NB174_171.out; have hnc10 := NB171_174.out; have hcz11_0 : w9.cell? ⟨gb174, 0, none⟩ = some (.int .i64 0) := (blk_cell BK174.out 0).trans rfl; have hcz11_1 : w9.cell? ⟨gb174, 1, none⟩ = some (.int .i64 0) := (blk_cell BK174.out 1).trans rfl; have hfz11_0 := blk_frozen BK174.out 0; have hfz11_1 := blk_frozen BK174.out 1; have hcz12_0 : w9.cell? ⟨gb171, 0, none⟩ = some (.int .i64 t168) := (blk_cell BK171.out 0).trans rfl; have hcz12_1 : w9.cell? ⟨gb171, 1, none⟩ = some (.int .i64 t169) := (blk_cell BK171.out 1).trans rfl; have hfz12_0 := blk_frozen BK171.out 0; have hfz12_1 := blk_frozen BK171.out 1))
      go_ret
      exact ⟨by first | rfl | (simp [errW_none, errW_some] <;> rfl) | (simp [*, errW_none, errW_some] <;> rfl), by repeat (first | (with_reducible first | exact HB.out | apply below_alloc | apply pw_below_drewN | apply below_drew1 | refine below_set ?_ GE171.out | refine below_set ?_ GE174.out) | exact HB.out)⟩
    · rw [if_neg c4] at H
      have c4b0 : (!(t168 == 0) || (!(t169 == 0))) = false := by simpa using c4
      clear c4
      by_cases c13 : (t165.length : Int) = 5
      · rw [if_pos c13] at H
        have c13b0 : ((t165.length : Int) == 5) = true := beq_iff_eq.mpr c13
        have c13b1 : ((t165.length : Int) != 5) = false := bne_eq_false_iff_eq.mpr c13
        clear c13
        by_cases c14 : (!(t172 == 1) || (!(t173 == 10))) = true
        · rw [if_pos c14] at H
          have c14b0 : (!(t172 == 1) || (!(t173 == 10))) = true := c14
          clear c14
          obtain rfl := Option.some.inj H
          go_enter Try.func9, Try.ntmps9
          go_wp2_with (first | ((with_reducible refine gate_callee (f := 8) rfl ?_); refine goesL_ (some 6) rfl rfl Try.func8 (by kernel_rfl) rfl #[.string (⟨#[58, 32, 97, 32, 49, 32, 43, 32, 59]⟩ : ByteArray)] rfl (by (try simp only [List.map_toArray, List.map_cons, List.map_nil]); first | done | rfl | (simp only [List.length_drop, List.length_take]; rfl)) ?_; (with_reducible refine (token_Scan.calls k (⟨#[58, 32, 97, 32, 49, 32, 43, 32, 59]⟩ : ByteArray) t165 t168 t169 t170 _ A1.out).mono ?_); rintro e w15 ⟨v166, rfl, ho0, hb⟩; refine ⟨_, rfl, ?_⟩; have n0_ := Aside0.mk (Kd.R_lower ho0 (below_size (by repeat (first | (with_reducible first | exact HB.out | apply below_alloc | apply pw_below_drewN | apply below_drew1) | exact HB.out)))); have n1_ := Aside0.mk (below_step (by repeat (first | (with_reducible first | exact HB.out | apply below_alloc | apply pw_below_drewN | apply below_drew1) | exact HB.out)) hb); clear HB; have HO167 := n0_; have HB := n1_; clear n0_ n1_; (try clear hb); (try clear hb2); (try clear hk); (try clear hi); (try clear ho0)) | ((with_reducible refine gate_dst (N := 2) rfl ?_); (try (refine gate_guard (by rfl) ?_; dsimp only)); refine box_event ?hg (N := 2) ?hd (cs := #[.int .i64 0, .int .i64 0]) (t := 24) ?hr ?_; (case hd => rfl); (case hg => rfl); (case hr => first | (go_simp; done) | (go_simp; rfl)); intro gb171 hg w16 hbox hb; have n0_ := Aside0.mk (Kd.R_below (by (with_reducible repeat (first | apply Kd.R_alloc | apply Kd.R_drewN | apply Kd.R_drew)); exact HO167.out) hb); have n1_ := Aside0.mk (below_step (by repeat (first | (with_reducible first | exact HB.out | apply below_alloc | apply pw_below_drewN | apply below_drew1) | exact HB.out)) hb); have n2_ := Aside0.mk (hbox); have n3_ := Aside0.mk ((by rw [hg]; exact (below_size (by repeat (first | (with_reducible first | exact HB.out | apply below_alloc | apply pw_below_drewN | apply below_drew1) | exact HB.out))) : w.heap.size ≤ gb171)); have n4_ := Aside0.mk ((by rw [hg]; exact (below_size (by repeat (first | (with_reducible first | exact HB.out | apply below_alloc | apply pw_below_drewN | apply below_drew1) | exact HB.out))) : w.heap.size ≤ gb171)); clear HO167; clear HB; have HO167 := n0_; have HB := n1_; have BK171 := n2_; have GW171 := n3_; have GE171 := n4_; clear n0_ n1_ n2_ n3_ n4_; clear hb hbox hg; have hcz17_0 : w16.cell? ⟨gb171, 0, none⟩ = some (.int .i64 0) := (blk_cell BK171.out 0).trans rfl; have hcz17_1 : w16.cell? ⟨gb171, 1, none⟩ = some (.int .i64 0) := (blk_cell BK171.out 1).trans rfl; have hfz17_0 := blk_frozen BK171.out 0; have hfz17_1 := blk_frozen BK171.out 1) | ((with_reducible refine gate_callee (f := 12) rfl ?_); refine goesL_ (some 10) rfl rfl Try.func12 (by kernel_rfl) rfl #[.string (⟨#[58, 32, 97, 32, 49, 32, 43, 32, 59]⟩ : ByteArray)] rfl (by (try simp only [List.map_toArray, List.map_cons, List.map_nil]); first | done | rfl | (simp only [List.length_drop, List.length_take]; rfl)) ?_; (with_reducible refine (token_End.calls k (⟨#[58, 32, 97, 32, 49, 32, 43, 32, 59]⟩ : ByteArray) t172 t173 _ A2.out).mono ?_); rintro e w18 ⟨rfl, hb⟩; refine ⟨_, rfl, ?_⟩; have n0_ := Aside0.mk (Kd.R_below (by (with_reducible repeat (first | apply Kd.R_alloc | apply Kd.R_drewN | apply Kd.R_drew)); exact (Kd.R_mono (Kd.R_far (p := ⟨gb171, 1, none⟩) (Kd.R_far (p := ⟨gb171, 0, none⟩) (Kd.R_types HO167.out BK171.out (by decide)) (fun _ hk => hk.2) (.int .i64 t168)) (fun _ hk => hk.2) (.int .i64 t169)) (fun _ h_ => h_.1))) hb); have n1_ := Aside0.mk (blk_below (g := gb171) (o := .cells #[.int .i64 t168, .int .i64 t169] 24 (0, 0)) (by (with_reducible repeat (first | refine blk_drewN ?_ _ | refine blk_drew ?_ | refine blk_alloc ?_ _)); refine blk_put (cs := #[.int .i64 t168, .int .i64 0]) ?_ 1 _ rfl; (with_reducible repeat (first | refine blk_drewN ?_ _ | refine blk_drew ?_ | refine blk_alloc ?_ _)); refine blk_put (cs := #[.int .i64 0, .int .i64 0]) ?_ 0 _ rfl; (with_reducible repeat (first | refine blk_drewN ?_ _ | refine blk_drew ?_ | refine blk_alloc ?_ _)); exact BK171.out) hb); have n2_ := Aside0.mk (below_step (by repeat (first | (with_reducible first | exact HB.out | apply below_alloc | apply pw_below_drewN | apply below_drew1 | refine below_set ?_ GE171.out) | exact HB.out)) hb); clear HO167; clear BK171; clear HB; have HO167 := n0_; have BK171 := n1_; have HB := n2_; clear n0_ n1_ n2_; (try clear hb); (try clear hb2); (try clear hk); (try clear hi)) | ((with_reducible refine gate_dst (N := 4) rfl ?_); (try (refine gate_guard (by rfl) ?_; dsimp only)); refine box_event ?hg (N := 4) ?hd (cs := #[.int .i64 0, .int .i64 0]) (t := 24) ?hr ?_; (case hd => rfl); (case hg => rfl); (case hr => first | (go_simp; done) | (go_simp; rfl)); intro gb174 hg w19 hbox hb; have n0_ := Aside0.mk (Kd.R_below (by (with_reducible repeat (first | apply Kd.R_alloc | apply Kd.R_drewN | apply Kd.R_drew)); exact HO167.out) hb); have n1_ := Aside0.mk (blk_below (g := gb171) (o := .cells #[.int .i64 t168, .int .i64 t169] 24 (0, 0)) (by (with_reducible repeat (first | refine blk_drewN ?_ _ | refine blk_drew ?_ | refine blk_alloc ?_ _)); exact BK171.out) hb); have n2_ := Aside0.mk (below_step (by repeat (first | (with_reducible first | exact HB.out | apply below_alloc | apply pw_below_drewN | apply below_drew1 | refine below_set ?_ GE171.out) | exact HB.out)) hb); have n3_ := Aside0.mk (hbox); have n4_ := Aside0.mk ((by rw [hg]; exact (below_size (by repeat (first | (with_reducible first | exact HB.out | apply below_alloc | apply pw_below_drewN | apply below_drew1 | refine below_set ?_ GE171.out) | exact HB.out))) : w.heap.size ≤ gb174)); have n5_ := Aside0.mk ((by rw [hg]; exact (below_size (by repeat (first | (with_reducible first | exact HB.out | apply below_alloc | apply pw_below_drewN | apply below_drew1 | refine below_set ?_ GE171.out) | exact HB.out))) : w.heap.size ≤ gb174)); have n6_ := Aside0.mk ((by rw [hg]; exact Nat.ne_of_lt (blk_lt (g := gb171) (o := .cells #[.int .i64 t168, .int .i64 t169] 24 (0, 0)) (by (with_reducible repeat (first | refine blk_drewN ?_ _ | refine blk_drew ?_ | refine blk_alloc ?_ _)); exact BK171.out)) : gb171 ≠ gb174)); have n7_ := Aside0.mk ((by rw [hg]; exact Nat.ne_of_gt (blk_lt (g := gb171) (o := .cells #[.int .i64 t168, .int .i64 t169] 24 (0, 0)) (by (with_reducible repeat (first | refine blk_drewN ?_ _ | refine blk_drew ?_ | refine blk_alloc ?_ _)); exact BK171.out)) : gb174 ≠ gb171)); clear HO167; clear BK171; clear HB; have HO167 := n0_; have BK171 := n1_; have HB := n2_; have BK174 := n3_; have GW174 := n4_; have GE174 := n5_; have NB171_174 := n6_; have NB174_171 := n7_; clear n0_ n1_ n2_ n3_ n4_ n5_ n6_ n7_; clear hb hbox hg; have hnb20 := NB174_171.out; have hnc20 := NB171_174.out; have hcz21_0 : w19.cell? ⟨gb174, 0, none⟩ = some (.int .i64 0) := (blk_cell BK174.out 0).trans rfl; have hcz21_1 : w19.cell? ⟨gb174, 1, none⟩ = some (.int .i64 0) := (blk_cell BK174.out 1).trans rfl; have hfz21_0 := blk_frozen BK174.out 0; have hfz21_1 := blk_frozen BK174.out 1; have hcz22_0 : w19.cell? ⟨gb171, 0, none⟩ = some (.int .i64 t168) := (blk_cell BK171.out 0).trans rfl; have hcz22_1 : w19.cell? ⟨gb171, 1, none⟩ = some (.int .i64 t169) := (blk_cell BK171.out 1).trans rfl; have hfz22_0 := blk_frozen BK171.out 0; have hfz22_1 := blk_frozen BK171.out 1; obtain ⟨Ao23, co23, eo23⟩ := Kd.R_slice HO167.out; subst eo23))
          go_ret
          exact ⟨by first | rfl | (simp [errW_none, errW_some] <;> rfl) | (simp [*, errW_none, errW_some] <;> rfl), by repeat (first | (with_reducible first | exact HB.out | apply below_alloc | apply pw_below_drewN | apply below_drew1 | refine below_set ?_ GE171.out | refine below_set ?_ GE174.out) | exact HB.out)⟩
        · rw [if_neg c14] at H
          have c14b0 : (!(t172 == 1) || (!(t173 == 10))) = false := by simpa using c14
          clear c14
          by_cases c24 : 0 < (t165.length : Int)
          · rw [if_pos c24] at H
            have c24b0 : decide (0 < (t165.length : Int)) = true := decide_eq_true c24
            have c24b1 : decide (0 < t165.length) = true := decide_eq_true (by omega)
            clear c24
            by_cases c25 : (((rd_T30 t165 0).f0) == 1 && ((((rd_T30 t165 0).f1).toList) == ([58] : List UInt8) && (((rd_T30 t165 0).f2) == 0 && ((((rd_T30 t165 0).f3.f0) == 1 && (((rd_T30 t165 0).f3.f1) == 1)))))) = true
            · rw [if_pos c25] at H
              have c25b0 : (((rd_T30 t165 0).f0) == 1 && ((((rd_T30 t165 0).f1).toList) == ([58] : List UInt8) && (((rd_T30 t165 0).f2) == 0 && ((((rd_T30 t165 0).f3.f0) == 1 && (((rd_T30 t165 0).f3.f1) == 1)))))) = true := c25
              (try (have c25b1 : decide (((rd_T30 t165 0).f0) = 1 && ((((rd_T30 t165 0).f1).toList) == ([58] : List UInt8) && (((rd_T30 t165 0).f2) == 0 && ((((rd_T30 t165 0).f3.f0) == 1 && (((rd_T30 t165 0).f3.f1) == 1)))))) = true := by simpa using c25))
              (try (have c25b2 : (((rd_T30 t165 0).f0) == 1 && ((((rd_T30 t165 0).f1).toList) == ([58] : List UInt8) && (((rd_T30 t165 0).f2) == 0 && ((((rd_T30 t165 0).f3.f0) == 1 && (((rd_T30 t165 0).f3.f1) == 1)))))) = true := by simpa using c25))
              clear c25
              by_cases c26 : 2 < (t165.length : Int)
              · rw [if_pos c26] at H
                have c26b0 : decide (2 < (t165.length : Int)) = true := decide_eq_true c26
                have c26b1 : decide (2 < t165.length) = true := decide_eq_true (by omega)
                clear c26
                obtain rfl := Option.some.inj H
                go_enter Try.func9, Try.ntmps9
                go_wp2_with (first | ((with_reducible refine gate_callee (f := 8) rfl ?_); refine goesL_ (some 6) rfl rfl Try.func8 (by kernel_rfl) rfl #[.string (⟨#[58, 32, 97, 32, 49, 32, 43, 32, 59]⟩ : ByteArray)] rfl (by (try simp only [List.map_toArray, List.map_cons, List.map_nil]); first | done | rfl | (simp only [List.length_drop, List.length_take]; rfl)) ?_; (with_reducible refine (token_Scan.calls k (⟨#[58, 32, 97, 32, 49, 32, 43, 32, 59]⟩ : ByteArray) t165 t168 t169 t170 _ A1.out).mono ?_); rintro e w27 ⟨v166, rfl, ho0, hb⟩; refine ⟨_, rfl, ?_⟩; have n0_ := Aside0.mk (Kd.R_lower ho0 (below_size (by repeat (first | (with_reducible first | exact HB.out | apply below_alloc | apply pw_below_drewN | apply below_drew1) | exact HB.out)))); have n1_ := Aside0.mk (below_step (by repeat (first | (with_reducible first | exact HB.out | apply below_alloc | apply pw_below_drewN | apply below_drew1) | exact HB.out)) hb); clear HB; have HO167 := n0_; have HB := n1_; clear n0_ n1_; (try clear hb); (try clear hb2); (try clear hk); (try clear hi); (try clear ho0)) | ((with_reducible refine gate_dst (N := 2) rfl ?_); (try (refine gate_guard (by rfl) ?_; dsimp only)); refine box_event ?hg (N := 2) ?hd (cs := #[.int .i64 0, .int .i64 0]) (t := 24) ?hr ?_; (case hd => rfl); (case hg => rfl); (case hr => first | (go_simp; done) | (go_simp; rfl)); intro gb171 hg w28 hbox hb; have n0_ := Aside0.mk (Kd.R_below (by (with_reducible repeat (first | apply Kd.R_alloc | apply Kd.R_drewN | apply Kd.R_drew)); exact HO167.out) hb); have n1_ := Aside0.mk (below_step (by repeat (first | (with_reducible first | exact HB.out | apply below_alloc | apply pw_below_drewN | apply below_drew1) | exact HB.out)) hb); have n2_ := Aside0.mk (hbox); have n3_ := Aside0.mk ((by rw [hg]; exact (below_size (by repeat (first | (with_reducible first | exact HB.out | apply below_alloc | apply pw_below_drewN | apply below_drew1) | exact HB.out))) : w.heap.size ≤ gb171)); have n4_ := Aside0.mk ((by rw [hg]; exact (below_size (by repeat (first | (with_reducible first | exact HB.out | apply below_alloc | apply pw_below_drewN | apply below_drew1) | exact HB.out))) : w.heap.size ≤ gb171)); clear HO167; clear HB; have HO167 := n0_; have HB := n1_; have BK171 := n2_; have GW171 := n3_; have GE171 := n4_; clear n0_ n1_ n2_ n3_ n4_; clear hb hbox hg; have hcz29_0 : w28.cell? ⟨gb171, 0, none⟩ = some (.int .i64 0) := (blk_cell BK171.out 0).trans rfl; have hcz29_1 : w28.cell? ⟨gb171, 1, none⟩ = some (.int .i64 0) := (blk_cell BK171.out 1).trans rfl; have hfz29_0 := blk_frozen BK171.out 0; have hfz29_1 := blk_frozen BK171.out 1) | ((with_reducible refine gate_callee (f := 12) rfl ?_); refine goesL_ (some 10) rfl rfl Try.func12 (by kernel_rfl) rfl #[.string (⟨#[58, 32, 97, 32, 49, 32, 43, 32, 59]⟩ : ByteArray)] rfl (by (try simp only [List.map_toArray, List.map_cons, List.map_nil]); first | done | rfl | (simp only [List.length_drop, List.length_take]; rfl)) ?_; (with_reducible refine (token_End.calls k (⟨#[58, 32, 97, 32, 49, 32, 43, 32, 59]⟩ : ByteArray) t172 t173 _ A2.out).mono ?_); rintro e w30 ⟨rfl, hb⟩; refine ⟨_, rfl, ?_⟩; have n0_ := Aside0.mk (Kd.R_below (by (with_reducible repeat (first | apply Kd.R_alloc | apply Kd.R_drewN | apply Kd.R_drew)); exact (Kd.R_mono (Kd.R_far (p := ⟨gb171, 1, none⟩) (Kd.R_far (p := ⟨gb171, 0, none⟩) (Kd.R_types HO167.out BK171.out (by decide)) (fun _ hk => hk.2) (.int .i64 t168)) (fun _ hk => hk.2) (.int .i64 t169)) (fun _ h_ => h_.1))) hb); have n1_ := Aside0.mk (blk_below (g := gb171) (o := .cells #[.int .i64 t168, .int .i64 t169] 24 (0, 0)) (by (with_reducible repeat (first | refine blk_drewN ?_ _ | refine blk_drew ?_ | refine blk_alloc ?_ _)); refine blk_put (cs := #[.int .i64 t168, .int .i64 0]) ?_ 1 _ rfl; (with_reducible repeat (first | refine blk_drewN ?_ _ | refine blk_drew ?_ | refine blk_alloc ?_ _)); refine blk_put (cs := #[.int .i64 0, .int .i64 0]) ?_ 0 _ rfl; (with_reducible repeat (first | refine blk_drewN ?_ _ | refine blk_drew ?_ | refine blk_alloc ?_ _)); exact BK171.out) hb); have n2_ := Aside0.mk (below_step (by repeat (first | (with_reducible first | exact HB.out | apply below_alloc | apply pw_below_drewN | apply below_drew1 | refine below_set ?_ GE171.out) | exact HB.out)) hb); clear HO167; clear BK171; clear HB; have HO167 := n0_; have BK171 := n1_; have HB := n2_; clear n0_ n1_ n2_; (try clear hb); (try clear hb2); (try clear hk); (try clear hi)) | ((with_reducible refine gate_dst (N := 4) rfl ?_); (try (refine gate_guard (by rfl) ?_; dsimp only)); refine box_event ?hg (N := 4) ?hd (cs := #[.int .i64 0, .int .i64 0]) (t := 24) ?hr ?_; (case hd => rfl); (case hg => rfl); (case hr => first | (go_simp; done) | (go_simp; rfl)); intro gb174 hg w31 hbox hb; have n0_ := Aside0.mk (Kd.R_below (by (with_reducible repeat (first | apply Kd.R_alloc | apply Kd.R_drewN | apply Kd.R_drew)); exact HO167.out) hb); have n1_ := Aside0.mk (blk_below (g := gb171) (o := .cells #[.int .i64 t168, .int .i64 t169] 24 (0, 0)) (by (with_reducible repeat (first | refine blk_drewN ?_ _ | refine blk_drew ?_ | refine blk_alloc ?_ _)); exact BK171.out) hb); have n2_ := Aside0.mk (below_step (by repeat (first | (with_reducible first | exact HB.out | apply below_alloc | apply pw_below_drewN | apply below_drew1 | refine below_set ?_ GE171.out) | exact HB.out)) hb); have n3_ := Aside0.mk (hbox); have n4_ := Aside0.mk ((by rw [hg]; exact (below_size (by repeat (first | (with_reducible first | exact HB.out | apply below_alloc | apply pw_below_drewN | apply below_drew1 | refine below_set ?_ GE171.out) | exact HB.out))) : w.heap.size ≤ gb174)); have n5_ := Aside0.mk ((by rw [hg]; exact (below_size (by repeat (first | (with_reducible first | exact HB.out | apply below_alloc | apply pw_below_drewN | apply below_drew1 | refine below_set ?_ GE171.out) | exact HB.out))) : w.heap.size ≤ gb174)); have n6_ := Aside0.mk ((by rw [hg]; exact Nat.ne_of_lt (blk_lt (g := gb171) (o := .cells #[.int .i64 t168, .int .i64 t169] 24 (0, 0)) (by (with_reducible repeat (first | refine blk_drewN ?_ _ | refine blk_drew ?_ | refine blk_alloc ?_ _)); exact BK171.out)) : gb171 ≠ gb174)); have n7_ := Aside0.mk ((by rw [hg]; exact Nat.ne_of_gt (blk_lt (g := gb171) (o := .cells #[.int .i64 t168, .int .i64 t169] 24 (0, 0)) (by (with_reducible repeat (first | refine blk_drewN ?_ _ | refine blk_drew ?_ | refine blk_alloc ?_ _)); exact BK171.out)) : gb174 ≠ gb171)); clear HO167; clear BK171; clear HB; have HO167 := n0_; have BK171 := n1_; have HB := n2_; have BK174 := n3_; have GW174 := n4_; have GE174 := n5_; have NB171_174 := n6_; have NB174_171 := n7_; clear n0_ n1_ n2_ n3_ n4_ n5_ n6_ n7_; clear hb hbox hg; have hnb32 := NB174_171.out; have hnc32 := NB171_174.out; have hcz33_0 : w31.cell? ⟨gb174, 0, none⟩ = some (.int .i64 0) := (blk_cell BK174.out 0).trans rfl; have hcz33_1 : w31.cell? ⟨gb174, 1, none⟩ = some (.int .i64 0) := (blk_cell BK174.out 1).trans rfl; have hfz33_0 := blk_frozen BK174.out 0; have hfz33_1 := blk_frozen BK174.out 1; have hcz34_0 : w31.cell? ⟨gb171, 0, none⟩ = some (.int .i64 t168) := (blk_cell BK171.out 0).trans rfl; have hcz34_1 : w31.cell? ⟨gb171, 1, none⟩ = some (.int .i64 t169) := (blk_cell BK171.out 1).trans rfl; have hfz34_0 := blk_frozen BK171.out 0; have hfz34_1 := blk_frozen BK171.out 1; obtain ⟨Ao35, co35, eo35⟩ := Kd.R_slice HO167.out; subst eo35; have p175 : 0 ≤ (0 : Int) := (by omega); have q175 : 0 < (t165.length : Int) := of_decide_eq_true (by first | (with_reducible assumption) | assumption); obtain ⟨ad175, e175, hx175_0, hx175_1, hx175_2, hx175_3, hx175_4⟩ := at_T30 (Kd.R_reads' HO167.out).2.2 0 p175 q175; cases e175; have qi175 : (0 < t165.length) = True := eq_true (by omega); (try rw [show ((0 : Int)).toNat = 0 from rfl] at hx175_0); (try rw [show 0 * 5 = 0 from rfl] at hx175_0); (try rw [Addr.add_zero'] at hx175_0); (try rw [show ((0 : Int)).toNat = 0 from rfl] at hx175_1); (try rw [show 0 * 5 = 0 from rfl] at hx175_1); (try rw [Addr.add_zero'] at hx175_1); (try rw [show ((0 : Int)).toNat = 0 from rfl] at hx175_2); (try rw [show 0 * 5 = 0 from rfl] at hx175_2); (try rw [Addr.add_zero'] at hx175_2); (try rw [show ((0 : Int)).toNat = 0 from rfl] at hx175_3); (try rw [show 0 * 5 = 0 from rfl] at hx175_3); (try rw [Addr.add_zero'] at hx175_3); (try rw [show ((0 : Int)).toNat = 0 from rfl] at hx175_4); (try rw [show 0 * 5 = 0 from rfl] at hx175_4); (try rw [Addr.add_zero'] at hx175_4); have hn175_0 : ad175.block ≠ gb174 := Kd.own_blk (Kd.R_ne HO167.out BK174.out (by decide)); have hn175_1 : ad175.block ≠ gb174 := Kd.own_blk (Kd.R_ne HO167.out BK174.out (by decide)); replace hx175_0 := (cell_far (p := ⟨gb174, 0, none⟩) (by first | (rw [add_block]; exact hn175_0) | (show (Addr.add _ _).block ≠ _; rw [add_block]; exact hn175_0) | exact hn175_0) (.int .i64 t172)).trans hx175_0; replace hx175_1 := (cell_far (p := ⟨gb174, 0, none⟩) (by first | (rw [add_block]; exact hn175_0) | (show (Addr.add _ _).block ≠ _; rw [add_block]; exact hn175_0) | exact hn175_0) (.int .i64 t172)).trans hx175_1; replace hx175_2 := (cell_far (p := ⟨gb174, 0, none⟩) (by first | (rw [add_block]; exact hn175_0) | (show (Addr.add _ _).block ≠ _; rw [add_block]; exact hn175_0) | exact hn175_0) (.int .i64 t172)).trans hx175_2; replace hx175_3 := (cell_far (p := ⟨gb174, 0, none⟩) (by first | (rw [add_block]; exact hn175_0) | (show (Addr.add _ _).block ≠ _; rw [add_block]; exact hn175_0) | exact hn175_0) (.int .i64 t172)).trans hx175_3; replace hx175_4 := (cell_far (p := ⟨gb174, 0, none⟩) (by first | (rw [add_block]; exact hn175_0) | (show (Addr.add _ _).block ≠ _; rw [add_block]; exact hn175_0) | exact hn175_0) (.int .i64 t172)).trans hx175_4; replace hx175_0 := (cell_far (p := ⟨gb174, 1, none⟩) (by first | (rw [add_block]; exact hn175_1) | (show (Addr.add _ _).block ≠ _; rw [add_block]; exact hn175_1) | exact hn175_1) (.int .i64 t173)).trans hx175_0; replace hx175_1 := (cell_far (p := ⟨gb174, 1, none⟩) (by first | (rw [add_block]; exact hn175_1) | (show (Addr.add _ _).block ≠ _; rw [add_block]; exact hn175_1) | exact hn175_1) (.int .i64 t173)).trans hx175_1; replace hx175_2 := (cell_far (p := ⟨gb174, 1, none⟩) (by first | (rw [add_block]; exact hn175_1) | (show (Addr.add _ _).block ≠ _; rw [add_block]; exact hn175_1) | exact hn175_1) (.int .i64 t173)).trans hx175_2; replace hx175_3 := (cell_far (p := ⟨gb174, 1, none⟩) (by first | (rw [add_block]; exact hn175_1) | (show (Addr.add _ _).block ≠ _; rw [add_block]; exact hn175_1) | exact hn175_1) (.int .i64 t173)).trans hx175_3; replace hx175_4 := (cell_far (p := ⟨gb174, 1, none⟩) (by first | (rw [add_block]; exact hn175_1) | (show (Addr.add _ _).block ≠ _; rw [add_block]; exact hn175_1) | exact hn175_1) (.int .i64 t173)).trans hx175_4; clear hn175_0; clear hn175_1; replace p175 := eq_true p175; replace q175 := eq_true q175; have p176 : 0 ≤ (2 : Int) := (by omega); have q176 : 2 < (t165.length : Int) := of_decide_eq_true (by first | (with_reducible assumption) | assumption); obtain ⟨ad176, e176, hx176_0, hx176_1, hx176_2, hx176_3, hx176_4⟩ := at_T30 (Kd.R_reads' HO167.out).2.2 2 p176 q176; obtain rfl : ad175 = ad176 := (by injection e176); (try simp only [show (2 : Int).toNat = 2 from rfl, Nat.reduceMul, Nat.reduceEqDiff, Go.Addr.add, ↓reduceIte] at hx176_0); (try simp only [show (2 : Int).toNat = 2 from rfl, Nat.reduceMul, Nat.reduceEqDiff, Go.Addr.add, ↓reduceIte] at hx176_1); (try simp only [show (2 : Int).toNat = 2 from rfl, Nat.reduceMul, Nat.reduceEqDiff, Go.Addr.add, ↓reduceIte] at hx176_2); (try simp only [show (2 : Int).toNat = 2 from rfl, Nat.reduceMul, Nat.reduceEqDiff, Go.Addr.add, ↓reduceIte] at hx176_3); (try simp only [show (2 : Int).toNat = 2 from rfl, Nat.reduceMul, Nat.reduceEqDiff, Go.Addr.add, ↓reduceIte] at hx176_4); have qi176 : (2 < t165.length) = True := eq_true (by omega); (try rw [show ((2 : Int)).toNat = 2 from rfl] at hx176_0); (try rw [show 2 * 5 = 10 from rfl] at hx176_0); (try rw [show ((2 : Int)).toNat = 2 from rfl] at hx176_1); (try rw [show 2 * 5 = 10 from rfl] at hx176_1); (try rw [show ((2 : Int)).toNat = 2 from rfl] at hx176_2); (try rw [show 2 * 5 = 10 from rfl] at hx176_2); (try rw [show ((2 : Int)).toNat = 2 from rfl] at hx176_3); (try rw [show 2 * 5 = 10 from rfl] at hx176_3); (try rw [show ((2 : Int)).toNat = 2 from rfl] at hx176_4); (try rw [show 2 * 5 = 10 from rfl] at hx176_4); have hn176_0 : ad175.block ≠ gb174 := Kd.own_blk (Kd.R_ne HO167.out BK174.out (by decide)); have hn176_1 : ad175.block ≠ gb174 := Kd.own_blk (Kd.R_ne HO167.out BK174.out (by decide)); replace hx176_0 := (cell_far (p := ⟨gb174, 0, none⟩) (by first | (rw [add_block]; exact hn176_0) | (show (Addr.add _ _).block ≠ _; rw [add_block]; exact hn176_0) | exact hn176_0) (.int .i64 t172)).trans hx176_0; replace hx176_1 := (cell_far (p := ⟨gb174, 0, none⟩) (by first | (rw [add_block]; exact hn176_0) | (show (Addr.add _ _).block ≠ _; rw [add_block]; exact hn176_0) | exact hn176_0) (.int .i64 t172)).trans hx176_1; replace hx176_2 := (cell_far (p := ⟨gb174, 0, none⟩) (by first | (rw [add_block]; exact hn176_0) | (show (Addr.add _ _).block ≠ _; rw [add_block]; exact hn176_0) | exact hn176_0) (.int .i64 t172)).trans hx176_2; replace hx176_3 := (cell_far (p := ⟨gb174, 0, none⟩) (by first | (rw [add_block]; exact hn176_0) | (show (Addr.add _ _).block ≠ _; rw [add_block]; exact hn176_0) | exact hn176_0) (.int .i64 t172)).trans hx176_3; replace hx176_4 := (cell_far (p := ⟨gb174, 0, none⟩) (by first | (rw [add_block]; exact hn176_0) | (show (Addr.add _ _).block ≠ _; rw [add_block]; exact hn176_0) | exact hn176_0) (.int .i64 t172)).trans hx176_4; replace hx176_0 := (cell_far (p := ⟨gb174, 1, none⟩) (by first | (rw [add_block]; exact hn176_1) | (show (Addr.add _ _).block ≠ _; rw [add_block]; exact hn176_1) | exact hn176_1) (.int .i64 t173)).trans hx176_0; replace hx176_1 := (cell_far (p := ⟨gb174, 1, none⟩) (by first | (rw [add_block]; exact hn176_1) | (show (Addr.add _ _).block ≠ _; rw [add_block]; exact hn176_1) | exact hn176_1) (.int .i64 t173)).trans hx176_1; replace hx176_2 := (cell_far (p := ⟨gb174, 1, none⟩) (by first | (rw [add_block]; exact hn176_1) | (show (Addr.add _ _).block ≠ _; rw [add_block]; exact hn176_1) | exact hn176_1) (.int .i64 t173)).trans hx176_2; replace hx176_3 := (cell_far (p := ⟨gb174, 1, none⟩) (by first | (rw [add_block]; exact hn176_1) | (show (Addr.add _ _).block ≠ _; rw [add_block]; exact hn176_1) | exact hn176_1) (.int .i64 t173)).trans hx176_3; replace hx176_4 := (cell_far (p := ⟨gb174, 1, none⟩) (by first | (rw [add_block]; exact hn176_1) | (show (Addr.add _ _).block ≠ _; rw [add_block]; exact hn176_1) | exact hn176_1) (.int .i64 t173)).trans hx176_4; clear hn176_0; clear hn176_1; replace p176 := eq_true p176; replace q176 := eq_true q176))
                go_ret
                exact ⟨by first | rfl | (simp [errW_none, errW_some] <;> rfl) | (simp [*, errW_none, errW_some] <;> rfl), by repeat (first | (with_reducible first | exact HB.out | apply below_alloc | apply pw_below_drewN | apply below_drew1 | refine below_set ?_ GE171.out | refine below_set ?_ GE174.out) | exact HB.out)⟩
              · rw [if_neg c26] at H
                exact absurd H (by simp)
            · rw [if_neg c25] at H
              have c25b0 : (((rd_T30 t165 0).f0) == 1 && ((((rd_T30 t165 0).f1).toList) == ([58] : List UInt8) && (((rd_T30 t165 0).f2) == 0 && ((((rd_T30 t165 0).f3.f0) == 1 && (((rd_T30 t165 0).f3.f1) == 1)))))) = false := by simpa using c25
              (try (have c25b1 : decide (((rd_T30 t165 0).f0) = 1 && ((((rd_T30 t165 0).f1).toList) == ([58] : List UInt8) && (((rd_T30 t165 0).f2) == 0 && ((((rd_T30 t165 0).f3.f0) == 1 && (((rd_T30 t165 0).f3.f1) == 1)))))) = false := by simpa using c25))
              (try (have c25b2 : (((rd_T30 t165 0).f0) == 1 && ((((rd_T30 t165 0).f1).toList) == ([58] : List UInt8) && (((rd_T30 t165 0).f2) == 0 && ((((rd_T30 t165 0).f3.f0) == 1 && (((rd_T30 t165 0).f3.f1) == 1)))))) = false := by simpa using c25))
              (try (have c25b3 : ¬ (((rd_T30 t165 0).f0) = 1 && ((((rd_T30 t165 0).f1).toList) == ([58] : List UInt8) && (((rd_T30 t165 0).f2) == 0 && ((((rd_T30 t165 0).f3.f0) == 1 && (((rd_T30 t165 0).f3.f1) == 1)))))) := by simpa using c25))
              clear c25
              obtain rfl := Option.some.inj H
              go_enter Try.func9, Try.ntmps9
              go_wp2_with (first | ((with_reducible refine gate_callee (f := 8) rfl ?_); refine goesL_ (some 6) rfl rfl Try.func8 (by kernel_rfl) rfl #[.string (⟨#[58, 32, 97, 32, 49, 32, 43, 32, 59]⟩ : ByteArray)] rfl (by (try simp only [List.map_toArray, List.map_cons, List.map_nil]); first | done | rfl | (simp only [List.length_drop, List.length_take]; rfl)) ?_; (with_reducible refine (token_Scan.calls k (⟨#[58, 32, 97, 32, 49, 32, 43, 32, 59]⟩ : ByteArray) t165 t168 t169 t170 _ A1.out).mono ?_); rintro e w36 ⟨v166, rfl, ho0, hb⟩; refine ⟨_, rfl, ?_⟩; have n0_ := Aside0.mk (Kd.R_lower ho0 (below_size (by repeat (first | (with_reducible first | exact HB.out | apply below_alloc | apply pw_below_drewN | apply below_drew1) | exact HB.out)))); have n1_ := Aside0.mk (below_step (by repeat (first | (with_reducible first | exact HB.out | apply below_alloc | apply pw_below_drewN | apply below_drew1) | exact HB.out)) hb); clear HB; have HO167 := n0_; have HB := n1_; clear n0_ n1_; (try clear hb); (try clear hb2); (try clear hk); (try clear hi); (try clear ho0)) | ((with_reducible refine gate_dst (N := 2) rfl ?_); (try (refine gate_guard (by rfl) ?_; dsimp only)); refine box_event ?hg (N := 2) ?hd (cs := #[.int .i64 0, .int .i64 0]) (t := 24) ?hr ?_; (case hd => rfl); (case hg => rfl); (case hr => first | (go_simp; done) | (go_simp; rfl)); intro gb171 hg w37 hbox hb; have n0_ := Aside0.mk (Kd.R_below (by (with_reducible repeat (first | apply Kd.R_alloc | apply Kd.R_drewN | apply Kd.R_drew)); exact HO167.out) hb); have n1_ := Aside0.mk (below_step (by repeat (first | (with_reducible first | exact HB.out | apply below_alloc | apply pw_below_drewN | apply below_drew1) | exact HB.out)) hb); have n2_ := Aside0.mk (hbox); have n3_ := Aside0.mk ((by rw [hg]; exact (below_size (by repeat (first | (with_reducible first | exact HB.out | apply below_alloc | apply pw_below_drewN | apply below_drew1) | exact HB.out))) : w.heap.size ≤ gb171)); have n4_ := Aside0.mk ((by rw [hg]; exact (below_size (by repeat (first | (with_reducible first | exact HB.out | apply below_alloc | apply pw_below_drewN | apply below_drew1) | exact HB.out))) : w.heap.size ≤ gb171)); clear HO167; clear HB; have HO167 := n0_; have HB := n1_; have BK171 := n2_; have GW171 := n3_; have GE171 := n4_; clear n0_ n1_ n2_ n3_ n4_; clear hb hbox hg; have hcz38_0 : w37.cell? ⟨gb171, 0, none⟩ = some (.int .i64 0) := (blk_cell BK171.out 0).trans rfl; have hcz38_1 : w37.cell? ⟨gb171, 1, none⟩ = some (.int .i64 0) := (blk_cell BK171.out 1).trans rfl; have hfz38_0 := blk_frozen BK171.out 0; have hfz38_1 := blk_frozen BK171.out 1) | ((with_reducible refine gate_callee (f := 12) rfl ?_); refine goesL_ (some 10) rfl rfl Try.func12 (by kernel_rfl) rfl #[.string (⟨#[58, 32, 97, 32, 49, 32, 43, 32, 59]⟩ : ByteArray)] rfl (by (try simp only [List.map_toArray, List.map_cons, List.map_nil]); first | done | rfl | (simp only [List.length_drop, List.length_take]; rfl)) ?_; (with_reducible refine (token_End.calls k (⟨#[58, 32, 97, 32, 49, 32, 43, 32, 59]⟩ : ByteArray) t172 t173 _ A2.out).mono ?_); rintro e w39 ⟨rfl, hb⟩; refine ⟨_, rfl, ?_⟩; have n0_ := Aside0.mk (Kd.R_below (by (with_reducible repeat (first | apply Kd.R_alloc | apply Kd.R_drewN | apply Kd.R_drew)); exact (Kd.R_mono (Kd.R_far (p := ⟨gb171, 1, none⟩) (Kd.R_far (p := ⟨gb171, 0, none⟩) (Kd.R_types HO167.out BK171.out (by decide)) (fun _ hk => hk.2) (.int .i64 t168)) (fun _ hk => hk.2) (.int .i64 t169)) (fun _ h_ => h_.1))) hb); have n1_ := Aside0.mk (blk_below (g := gb171) (o := .cells #[.int .i64 t168, .int .i64 t169] 24 (0, 0)) (by (with_reducible repeat (first | refine blk_drewN ?_ _ | refine blk_drew ?_ | refine blk_alloc ?_ _)); refine blk_put (cs := #[.int .i64 t168, .int .i64 0]) ?_ 1 _ rfl; (with_reducible repeat (first | refine blk_drewN ?_ _ | refine blk_drew ?_ | refine blk_alloc ?_ _)); refine blk_put (cs := #[.int .i64 0, .int .i64 0]) ?_ 0 _ rfl; (with_reducible repeat (first | refine blk_drewN ?_ _ | refine blk_drew ?_ | refine blk_alloc ?_ _)); exact BK171.out) hb); have n2_ := Aside0.mk (below_step (by repeat (first | (with_reducible first | exact HB.out | apply below_alloc | apply pw_below_drewN | apply below_drew1 | refine below_set ?_ GE171.out) | exact HB.out)) hb); clear HO167; clear BK171; clear HB; have HO167 := n0_; have BK171 := n1_; have HB := n2_; clear n0_ n1_ n2_; (try clear hb); (try clear hb2); (try clear hk); (try clear hi)) | ((with_reducible refine gate_dst (N := 4) rfl ?_); (try (refine gate_guard (by rfl) ?_; dsimp only)); refine box_event ?hg (N := 4) ?hd (cs := #[.int .i64 0, .int .i64 0]) (t := 24) ?hr ?_; (case hd => rfl); (case hg => rfl); (case hr => first | (go_simp; done) | (go_simp; rfl)); intro gb174 hg w40 hbox hb; have n0_ := Aside0.mk (Kd.R_below (by (with_reducible repeat (first | apply Kd.R_alloc | apply Kd.R_drewN | apply Kd.R_drew)); exact HO167.out) hb); have n1_ := Aside0.mk (blk_below (g := gb171) (o := .cells #[.int .i64 t168, .int .i64 t169] 24 (0, 0)) (by (with_reducible repeat (first | refine blk_drewN ?_ _ | refine blk_drew ?_ | refine blk_alloc ?_ _)); exact BK171.out) hb); have n2_ := Aside0.mk (below_step (by repeat (first | (with_reducible first | exact HB.out | apply below_alloc | apply pw_below_drewN | apply below_drew1 | refine below_set ?_ GE171.out) | exact HB.out)) hb); have n3_ := Aside0.mk (hbox); have n4_ := Aside0.mk ((by rw [hg]; exact (below_size (by repeat (first | (with_reducible first | exact HB.out | apply below_alloc | apply pw_below_drewN | apply below_drew1 | refine below_set ?_ GE171.out) | exact HB.out))) : w.heap.size ≤ gb174)); have n5_ := Aside0.mk ((by rw [hg]; exact (below_size (by repeat (first | (with_reducible first | exact HB.out | apply below_alloc | apply pw_below_drewN | apply below_drew1 | refine below_set ?_ GE171.out) | exact HB.out))) : w.heap.size ≤ gb174)); have n6_ := Aside0.mk ((by rw [hg]; exact Nat.ne_of_lt (blk_lt (g := gb171) (o := .cells #[.int .i64 t168, .int .i64 t169] 24 (0, 0)) (by (with_reducible repeat (first | refine blk_drewN ?_ _ | refine blk_drew ?_ | refine blk_alloc ?_ _)); exact BK171.out)) : gb171 ≠ gb174)); have n7_ := Aside0.mk ((by rw [hg]; exact Nat.ne_of_gt (blk_lt (g := gb171) (o := .cells #[.int .i64 t168, .int .i64 t169] 24 (0, 0)) (by (with_reducible repeat (first | refine blk_drewN ?_ _ | refine blk_drew ?_ | refine blk_alloc ?_ _)); exact BK171.out)) : gb174 ≠ gb171)); clear HO167; clear BK171; clear HB; have HO167 := n0_; have BK171 := n1_; have HB := n2_; have BK174 := n3_; have GW174 := n4_; have GE174 := n5_; have NB171_174 := n6_; have NB174_171 := n7_; clear n0_ n1_ n2_ n3_ n4_ n5_ n6_ n7_; clear hb hbox hg; have hnb41 := NB174_171.out; have hnc41 := NB171_174.out; have hcz42_0 : w40.cell? ⟨gb174, 0, none⟩ = some (.int .i64 0) := (blk_cell BK174.out 0).trans rfl; have hcz42_1 : w40.cell? ⟨gb174, 1, none⟩ = some (.int .i64 0) := (blk_cell BK174.out 1).trans rfl; have hfz42_0 := blk_frozen BK174.out 0; have hfz42_1 := blk_frozen BK174.out 1; have hcz43_0 : w40.cell? ⟨gb171, 0, none⟩ = some (.int .i64 t168) := (blk_cell BK171.out 0).trans rfl; have hcz43_1 : w40.cell? ⟨gb171, 1, none⟩ = some (.int .i64 t169) := (blk_cell BK171.out 1).trans rfl; have hfz43_0 := blk_frozen BK171.out 0; have hfz43_1 := blk_frozen BK171.out 1; obtain ⟨Ao44, co44, eo44⟩ := Kd.R_slice HO167.out; subst eo44; have p175 : 0 ≤ (0 : Int) := (by omega); have q175 : 0 < (t165.length : Int) := of_decide_eq_true (by first | (with_reducible assumption) | assumption); obtain ⟨ad175, e175, hx175_0, hx175_1, hx175_2, hx175_3, hx175_4⟩ := at_T30 (Kd.R_reads' HO167.out).2.2 0 p175 q175; cases e175; have qi175 : (0 < t165.length) = True := eq_true (by omega); (try rw [show ((0 : Int)).toNat = 0 from rfl] at hx175_0); (try rw [show 0 * 5 = 0 from rfl] at hx175_0); (try rw [Addr.add_zero'] at hx175_0); (try rw [show ((0 : Int)).toNat = 0 from rfl] at hx175_1); (try rw [show 0 * 5 = 0 from rfl] at hx175_1); (try rw [Addr.add_zero'] at hx175_1); (try rw [show ((0 : Int)).toNat = 0 from rfl] at hx175_2); (try rw [show 0 * 5 = 0 from rfl] at hx175_2); (try rw [Addr.add_zero'] at hx175_2); (try rw [show ((0 : Int)).toNat = 0 from rfl] at hx175_3); (try rw [show 0 * 5 = 0 from rfl] at hx175_3); (try rw [Addr.add_zero'] at hx175_3); (try rw [show ((0 : Int)).toNat = 0 from rfl] at hx175_4); (try rw [show 0 * 5 = 0 from rfl] at hx175_4); (try rw [Addr.add_zero'] at hx175_4); have hn175_0 : ad175.block ≠ gb174 := Kd.own_blk (Kd.R_ne HO167.out BK174.out (by decide)); have hn175_1 : ad175.block ≠ gb174 := Kd.own_blk (Kd.R_ne HO167.out BK174.out (by decide)); replace hx175_0 := (cell_far (p := ⟨gb174, 0, none⟩) (by first | (rw [add_block]; exact hn175_0) | (show (Addr.add _ _).block ≠ _; rw [add_block]; exact hn175_0) | exact hn175_0) (.int .i64 t172)).trans hx175_0; replace hx175_1 := (cell_far (p := ⟨gb174, 0, none⟩) (by first | (rw [add_block]; exact hn175_0) | (show (Addr.add _ _).block ≠ _; rw [add_block]; exact hn175_0) | exact hn175_0) (.int .i64 t172)).trans hx175_1; replace hx175_2 := (cell_far (p := ⟨gb174, 0, none⟩) (by first | (rw [add_block]; exact hn175_0) | (show (Addr.add _ _).block ≠ _; rw [add_block]; exact hn175_0) | exact hn175_0) (.int .i64 t172)).trans hx175_2; replace hx175_3 := (cell_far (p := ⟨gb174, 0, none⟩) (by first | (rw [add_block]; exact hn175_0) | (show (Addr.add _ _).block ≠ _; rw [add_block]; exact hn175_0) | exact hn175_0) (.int .i64 t172)).trans hx175_3; replace hx175_4 := (cell_far (p := ⟨gb174, 0, none⟩) (by first | (rw [add_block]; exact hn175_0) | (show (Addr.add _ _).block ≠ _; rw [add_block]; exact hn175_0) | exact hn175_0) (.int .i64 t172)).trans hx175_4; replace hx175_0 := (cell_far (p := ⟨gb174, 1, none⟩) (by first | (rw [add_block]; exact hn175_1) | (show (Addr.add _ _).block ≠ _; rw [add_block]; exact hn175_1) | exact hn175_1) (.int .i64 t173)).trans hx175_0; replace hx175_1 := (cell_far (p := ⟨gb174, 1, none⟩) (by first | (rw [add_block]; exact hn175_1) | (show (Addr.add _ _).block ≠ _; rw [add_block]; exact hn175_1) | exact hn175_1) (.int .i64 t173)).trans hx175_1; replace hx175_2 := (cell_far (p := ⟨gb174, 1, none⟩) (by first | (rw [add_block]; exact hn175_1) | (show (Addr.add _ _).block ≠ _; rw [add_block]; exact hn175_1) | exact hn175_1) (.int .i64 t173)).trans hx175_2; replace hx175_3 := (cell_far (p := ⟨gb174, 1, none⟩) (by first | (rw [add_block]; exact hn175_1) | (show (Addr.add _ _).block ≠ _; rw [add_block]; exact hn175_1) | exact hn175_1) (.int .i64 t173)).trans hx175_3; replace hx175_4 := (cell_far (p := ⟨gb174, 1, none⟩) (by first | (rw [add_block]; exact hn175_1) | (show (Addr.add _ _).block ≠ _; rw [add_block]; exact hn175_1) | exact hn175_1) (.int .i64 t173)).trans hx175_4; clear hn175_0; clear hn175_1; replace p175 := eq_true p175; replace q175 := eq_true q175))
              go_ret
              exact ⟨by first | rfl | (simp [errW_none, errW_some] <;> rfl) | (simp [*, errW_none, errW_some] <;> rfl), by repeat (first | (with_reducible first | exact HB.out | apply below_alloc | apply pw_below_drewN | apply below_drew1 | refine below_set ?_ GE171.out | refine below_set ?_ GE174.out) | exact HB.out)⟩
          · rw [if_neg c24] at H
            exact absurd H (by simp)
      · rw [if_neg c13] at H
        have c13b0 : ((t165.length : Int) == 5) = false := beq_eq_false_iff_ne.mpr c13
        have c13b1 : ((t165.length : Int) != 5) = true := bne_iff_ne.mpr c13
        obtain rfl := Option.some.inj H
        go_enter Try.func9, Try.ntmps9
        go_wp2_with (first | ((with_reducible refine gate_callee (f := 8) rfl ?_); refine goesL_ (some 6) rfl rfl Try.func8 (by kernel_rfl) rfl #[.string (⟨#[58, 32, 97, 32, 49, 32, 43, 32, 59]⟩ : ByteArray)] rfl (by (try simp only [List.map_toArray, List.map_cons, List.map_nil]); first | done | rfl | (simp only [List.length_drop, List.length_take]; rfl)) ?_; (with_reducible refine (token_Scan.calls k (⟨#[58, 32, 97, 32, 49, 32, 43, 32, 59]⟩ : ByteArray) t165 t168 t169 t170 _ A1.out).mono ?_); rintro e w45 ⟨v166, rfl, ho0, hb⟩; refine ⟨_, rfl, ?_⟩; have n0_ := Aside0.mk (Kd.R_lower ho0 (below_size (by repeat (first | (with_reducible first | exact HB.out | apply below_alloc | apply pw_below_drewN | apply below_drew1) | exact HB.out)))); have n1_ := Aside0.mk (below_step (by repeat (first | (with_reducible first | exact HB.out | apply below_alloc | apply pw_below_drewN | apply below_drew1) | exact HB.out)) hb); clear HB; have HO167 := n0_; have HB := n1_; clear n0_ n1_; (try clear hb); (try clear hb2); (try clear hk); (try clear hi); (try clear ho0)) | ((with_reducible refine gate_dst (N := 2) rfl ?_); (try (refine gate_guard (by rfl) ?_; dsimp only)); refine box_event ?hg (N := 2) ?hd (cs := #[.int .i64 0, .int .i64 0]) (t := 24) ?hr ?_; (case hd => rfl); (case hg => rfl); (case hr => first | (go_simp; done) | (go_simp; rfl)); intro gb171 hg w46 hbox hb; have n0_ := Aside0.mk (Kd.R_below (by (with_reducible repeat (first | apply Kd.R_alloc | apply Kd.R_drewN | apply Kd.R_drew)); exact HO167.out) hb); have n1_ := Aside0.mk (below_step (by repeat (first | (with_reducible first | exact HB.out | apply below_alloc | apply pw_below_drewN | apply below_drew1) | exact HB.out)) hb); have n2_ := Aside0.mk (hbox); have n3_ := Aside0.mk ((by rw [hg]; exact (below_size (by repeat (first | (with_reducible first | exact HB.out | apply below_alloc | apply pw_below_drewN | apply below_drew1) | exact HB.out))) : w.heap.size ≤ gb171)); have n4_ := Aside0.mk ((by rw [hg]; exact (below_size (by repeat (first | (with_reducible first | exact HB.out | apply below_alloc | apply pw_below_drewN | apply below_drew1) | exact HB.out))) : w.heap.size ≤ gb171)); clear HO167; clear HB; have HO167 := n0_; have HB := n1_; have BK171 := n2_; have GW171 := n3_; have GE171 := n4_; clear n0_ n1_ n2_ n3_ n4_; clear hb hbox hg; have hcz47_0 : w46.cell? ⟨gb171, 0, none⟩ = some (.int .i64 0) := (blk_cell BK171.out 0).trans rfl; have hcz47_1 : w46.cell? ⟨gb171, 1, none⟩ = some (.int .i64 0) := (blk_cell BK171.out 1).trans rfl; have hfz47_0 := blk_frozen BK171.out 0; have hfz47_1 := blk_frozen BK171.out 1) | ((with_reducible refine gate_callee (f := 12) rfl ?_); refine goesL_ (some 10) rfl rfl Try.func12 (by kernel_rfl) rfl #[.string (⟨#[58, 32, 97, 32, 49, 32, 43, 32, 59]⟩ : ByteArray)] rfl (by (try simp only [List.map_toArray, List.map_cons, List.map_nil]); first | done | rfl | (simp only [List.length_drop, List.length_take]; rfl)) ?_; (with_reducible refine (token_End.calls k (⟨#[58, 32, 97, 32, 49, 32, 43, 32, 59]⟩ : ByteArray) t172 t173 _ A2.out).mono ?_); rintro e w48 ⟨rfl, hb⟩; refine ⟨_, rfl, ?_⟩; have n0_ := Aside0.mk (Kd.R_below (by (with_reducible repeat (first | apply Kd.R_alloc | apply Kd.R_drewN | apply Kd.R_drew)); exact (Kd.R_mono (Kd.R_far (p := ⟨gb171, 1, none⟩) (Kd.R_far (p := ⟨gb171, 0, none⟩) (Kd.R_types HO167.out BK171.out (by decide)) (fun _ hk => hk.2) (.int .i64 t168)) (fun _ hk => hk.2) (.int .i64 t169)) (fun _ h_ => h_.1))) hb); have n1_ := Aside0.mk (blk_below (g := gb171) (o := .cells #[.int .i64 t168, .int .i64 t169] 24 (0, 0)) (by (with_reducible repeat (first | refine blk_drewN ?_ _ | refine blk_drew ?_ | refine blk_alloc ?_ _)); refine blk_put (cs := #[.int .i64 t168, .int .i64 0]) ?_ 1 _ rfl; (with_reducible repeat (first | refine blk_drewN ?_ _ | refine blk_drew ?_ | refine blk_alloc ?_ _)); refine blk_put (cs := #[.int .i64 0, .int .i64 0]) ?_ 0 _ rfl; (with_reducible repeat (first | refine blk_drewN ?_ _ | refine blk_drew ?_ | refine blk_alloc ?_ _)); exact BK171.out) hb); have n2_ := Aside0.mk (below_step (by repeat (first | (with_reducible first | exact HB.out | apply below_alloc | apply pw_below_drewN | apply below_drew1 | refine below_set ?_ GE171.out) | exact HB.out)) hb); clear HO167; clear BK171; clear HB; have HO167 := n0_; have BK171 := n1_; have HB := n2_; clear n0_ n1_ n2_; (try clear hb); (try clear hb2); (try clear hk); (try clear hi)) | ((with_reducible refine gate_dst (N := 4) rfl ?_); (try (refine gate_guard (by rfl) ?_; dsimp only)); refine box_event ?hg (N := 4) ?hd (cs := #[.int .i64 0, .int .i64 0]) (t := 24) ?hr ?_; (case hd => rfl); (case hg => rfl); (case hr => first | (go_simp; done) | (go_simp; rfl)); intro gb174 hg w49 hbox hb; have n0_ := Aside0.mk (Kd.R_below (by (with_reducible repeat (first | apply Kd.R_alloc | apply Kd.R_drewN | apply Kd.R_drew)); exact HO167.out) hb); have n1_ := Aside0.mk (blk_below (g := gb171) (o := .cells #[.int .i64 t168, .int .i64 t169] 24 (0, 0)) (by (with_reducible repeat (first | refine blk_drewN ?_ _ | refine blk_drew ?_ | refine blk_alloc ?_ _)); exact BK171.out) hb); have n2_ := Aside0.mk (below_step (by repeat (first | (with_reducible first | exact HB.out | apply below_alloc | apply pw_below_drewN | apply below_drew1 | refine below_set ?_ GE171.out) | exact HB.out)) hb); have n3_ := Aside0.mk (hbox); have n4_ := Aside0.mk ((by rw [hg]; exact (below_size (by repeat (first | (with_reducible first | exact HB.out | apply below_alloc | apply pw_below_drewN | apply below_drew1 | refine below_set ?_ GE171.out) | exact HB.out))) : w.heap.size ≤ gb174)); have n5_ := Aside0.mk ((by rw [hg]; exact (below_size (by repeat (first | (with_reducible first | exact HB.out | apply below_alloc | apply pw_below_drewN | apply below_drew1 | refine below_set ?_ GE171.out) | exact HB.out))) : w.heap.size ≤ gb174)); have n6_ := Aside0.mk ((by rw [hg]; exact Nat.ne_of_lt (blk_lt (g := gb171) (o := .cells #[.int .i64 t168, .int .i64 t169] 24 (0, 0)) (by (with_reducible repeat (first | refine blk_drewN ?_ _ | refine blk_drew ?_ | refine blk_alloc ?_ _)); exact BK171.out)) : gb171 ≠ gb174)); have n7_ := Aside0.mk ((by rw [hg]; exact Nat.ne_of_gt (blk_lt (g := gb171) (o := .cells #[.int .i64 t168, .int .i64 t169] 24 (0, 0)) (by (with_reducible repeat (first | refine blk_drewN ?_ _ | refine blk_drew ?_ | refine blk_alloc ?_ _)); exact BK171.out)) : gb174 ≠ gb171)); clear HO167; clear BK171; clear HB; have HO167 := n0_; have BK171 := n1_; have HB := n2_; have BK174 := n3_; have GW174 := n4_; have GE174 := n5_; have NB171_174 := n6_; have NB174_171 := n7_; clear n0_ n1_ n2_ n3_ n4_ n5_ n6_ n7_; clear hb hbox hg; have hnb50 := NB174_171.out; have hnc50 := NB171_174.out; have hcz51_0 : w49.cell? ⟨gb174, 0, none⟩ = some (.int .i64 0) := (blk_cell BK174.out 0).trans rfl; have hcz51_1 : w49.cell? ⟨gb174, 1, none⟩ = some (.int .i64 0) := (blk_cell BK174.out 1).trans rfl; have hfz51_0 := blk_frozen BK174.out 0; have hfz51_1 := blk_frozen BK174.out 1; have hcz52_0 : w49.cell? ⟨gb171, 0, none⟩ = some (.int .i64 t168) := (blk_cell BK171.out 0).trans rfl; have hcz52_1 : w49.cell? ⟨gb171, 1, none⟩ = some (.int .i64 t169) := (blk_cell BK171.out 1).trans rfl; have hfz52_0 := blk_frozen BK171.out 0; have hfz52_1 := blk_frozen BK171.out 1; obtain ⟨Ao53, co53, eo53⟩ := Kd.R_slice HO167.out; subst eo53))
        go_ret
        exact ⟨by first | rfl | (simp [errW_none, errW_some] <;> rfl) | (simp [*, errW_none, errW_some] <;> rfl), by repeat (first | (with_reducible first | exact HB.out | apply below_alloc | apply pw_below_drewN | apply below_drew1 | refine below_set ?_ GE171.out | refine below_set ?_ GE174.out) | exact HB.out)⟩
  · rw [if_neg c3] at H
    have c3b0 : (t170 == 0) = false := beq_eq_false_iff_ne.mpr c3
    have c3b1 : (t170 != 0) = true := bne_iff_ne.mpr c3
    obtain rfl := Option.some.inj H
    go_enter Try.func9, Try.ntmps9
    go_wp2_with (first | ((with_reducible refine gate_callee (f := 8) rfl ?_); refine goesL_ (some 6) rfl rfl Try.func8 (by kernel_rfl) rfl #[.string (⟨#[58, 32, 97, 32, 49, 32, 43, 32, 59]⟩ : ByteArray)] rfl (by (try simp only [List.map_toArray, List.map_cons, List.map_nil]); first | done | rfl | (simp only [List.length_drop, List.length_take]; rfl)) ?_; (with_reducible refine (token_Scan.calls k (⟨#[58, 32, 97, 32, 49, 32, 43, 32, 59]⟩ : ByteArray) t165 t168 t169 t170 _ A1.out).mono ?_); rintro e w54 ⟨v166, rfl, ho0, hb⟩; refine ⟨_, rfl, ?_⟩; have n0_ := Aside0.mk (Kd.R_lower ho0 (below_size (by repeat (first | (with_reducible first | exact HB.out | apply below_alloc | apply pw_below_drewN | apply below_drew1) | exact HB.out)))); have n1_ := Aside0.mk (below_step (by repeat (first | (with_reducible first | exact HB.out | apply below_alloc | apply pw_below_drewN | apply below_drew1) | exact HB.out)) hb); clear HB; have HO167 := n0_; have HB := n1_; clear n0_ n1_; (try clear hb); (try clear hb2); (try clear hk); (try clear hi); (try clear ho0)) | ((with_reducible refine gate_dst (N := 2) rfl ?_); (try (refine gate_guard (by rfl) ?_; dsimp only)); refine box_event ?hg (N := 2) ?hd (cs := #[.int .i64 0, .int .i64 0]) (t := 24) ?hr ?_; (case hd => rfl); (case hg => rfl); (case hr => first | (go_simp; done) | (go_simp; rfl)); intro gb171 hg w55 hbox hb; have n0_ := Aside0.mk (Kd.R_below (by (with_reducible repeat (first | apply Kd.R_alloc | apply Kd.R_drewN | apply Kd.R_drew)); exact HO167.out) hb); have n1_ := Aside0.mk (below_step (by repeat (first | (with_reducible first | exact HB.out | apply below_alloc | apply pw_below_drewN | apply below_drew1) | exact HB.out)) hb); have n2_ := Aside0.mk (hbox); have n3_ := Aside0.mk ((by rw [hg]; exact (below_size (by repeat (first | (with_reducible first | exact HB.out | apply below_alloc | apply pw_below_drewN | apply below_drew1) | exact HB.out))) : w.heap.size ≤ gb171)); have n4_ := Aside0.mk ((by rw [hg]; exact (below_size (by repeat (first | (with_reducible first | exact HB.out | apply below_alloc | apply pw_below_drewN | apply below_drew1) | exact HB.out))) : w.heap.size ≤ gb171)); clear HO167; clear HB; have HO167 := n0_; have HB := n1_; have BK171 := n2_; have GW171 := n3_; have GE171 := n4_; clear n0_ n1_ n2_ n3_ n4_; clear hb hbox hg; have hcz56_0 : w55.cell? ⟨gb171, 0, none⟩ = some (.int .i64 0) := (blk_cell BK171.out 0).trans rfl; have hcz56_1 : w55.cell? ⟨gb171, 1, none⟩ = some (.int .i64 0) := (blk_cell BK171.out 1).trans rfl; have hfz56_0 := blk_frozen BK171.out 0; have hfz56_1 := blk_frozen BK171.out 1) | ((with_reducible refine gate_callee (f := 12) rfl ?_); refine goesL_ (some 10) rfl rfl Try.func12 (by kernel_rfl) rfl #[.string (⟨#[58, 32, 97, 32, 49, 32, 43, 32, 59]⟩ : ByteArray)] rfl (by (try simp only [List.map_toArray, List.map_cons, List.map_nil]); first | done | rfl | (simp only [List.length_drop, List.length_take]; rfl)) ?_; (with_reducible refine (token_End.calls k (⟨#[58, 32, 97, 32, 49, 32, 43, 32, 59]⟩ : ByteArray) t172 t173 _ A2.out).mono ?_); rintro e w57 ⟨rfl, hb⟩; refine ⟨_, rfl, ?_⟩; have n0_ := Aside0.mk (Kd.R_below (by (with_reducible repeat (first | apply Kd.R_alloc | apply Kd.R_drewN | apply Kd.R_drew)); exact (Kd.R_mono (Kd.R_far (p := ⟨gb171, 1, none⟩) (Kd.R_far (p := ⟨gb171, 0, none⟩) (Kd.R_types HO167.out BK171.out (by decide)) (fun _ hk => hk.2) (.int .i64 t168)) (fun _ hk => hk.2) (.int .i64 t169)) (fun _ h_ => h_.1))) hb); have n1_ := Aside0.mk (blk_below (g := gb171) (o := .cells #[.int .i64 t168, .int .i64 t169] 24 (0, 0)) (by (with_reducible repeat (first | refine blk_drewN ?_ _ | refine blk_drew ?_ | refine blk_alloc ?_ _)); refine blk_put (cs := #[.int .i64 t168, .int .i64 0]) ?_ 1 _ rfl; (with_reducible repeat (first | refine blk_drewN ?_ _ | refine blk_drew ?_ | refine blk_alloc ?_ _)); refine blk_put (cs := #[.int .i64 0, .int .i64 0]) ?_ 0 _ rfl; (with_reducible repeat (first | refine blk_drewN ?_ _ | refine blk_drew ?_ | refine blk_alloc ?_ _)); exact BK171.out) hb); have n2_ := Aside0.mk (below_step (by repeat (first | (with_reducible first | exact HB.out | apply below_alloc | apply pw_below_drewN | apply below_drew1 | refine below_set ?_ GE171.out) | exact HB.out)) hb); clear HO167; clear BK171; clear HB; have HO167 := n0_; have BK171 := n1_; have HB := n2_; clear n0_ n1_ n2_; (try clear hb); (try clear hb2); (try clear hk); (try clear hi)) | ((with_reducible refine gate_dst (N := 4) rfl ?_); (try (refine gate_guard (by rfl) ?_; dsimp only)); refine box_event ?hg (N := 4) ?hd (cs := #[.int .i64 0, .int .i64 0]) (t := 24) ?hr ?_; (case hd => rfl); (case hg => rfl); (case hr => first | (go_simp; done) | (go_simp; rfl)); intro gb174 hg w58 hbox hb; have n0_ := Aside0.mk (Kd.R_below (by (with_reducible repeat (first | apply Kd.R_alloc | apply Kd.R_drewN | apply Kd.R_drew)); exact HO167.out) hb); have n1_ := Aside0.mk (blk_below (g := gb171) (o := .cells #[.int .i64 t168, .int .i64 t169] 24 (0, 0)) (by (with_reducible repeat (first | refine blk_drewN ?_ _ | refine blk_drew ?_ | refine blk_alloc ?_ _)); exact BK171.out) hb); have n2_ := Aside0.mk (below_step (by repeat (first | (with_reducible first | exact HB.out | apply below_alloc | apply pw_below_drewN | apply below_drew1 | refine below_set ?_ GE171.out) | exact HB.out)) hb); have n3_ := Aside0.mk (hbox); have n4_ := Aside0.mk ((by rw [hg]; exact (below_size (by repeat (first | (with_reducible first | exact HB.out | apply below_alloc | apply pw_below_drewN | apply below_drew1 | refine below_set ?_ GE171.out) | exact HB.out))) : w.heap.size ≤ gb174)); have n5_ := Aside0.mk ((by rw [hg]; exact (below_size (by repeat (first | (with_reducible first | exact HB.out | apply below_alloc | apply pw_below_drewN | apply below_drew1 | refine below_set ?_ GE171.out) | exact HB.out))) : w.heap.size ≤ gb174)); have n6_ := Aside0.mk ((by rw [hg]; exact Nat.ne_of_lt (blk_lt (g := gb171) (o := .cells #[.int .i64 t168, .int .i64 t169] 24 (0, 0)) (by (with_reducible repeat (first | refine blk_drewN ?_ _ | refine blk_drew ?_ | refine blk_alloc ?_ _)); exact BK171.out)) : gb171 ≠ gb174)); have n7_ := Aside0.mk ((by rw [hg]; exact Nat.ne_of_gt (blk_lt (g := gb171) (o := .cells #[.int .i64 t168, .int .i64 t169] 24 (0, 0)) (by (with_reducible repeat (first | refine blk_drewN ?_ _ | refine blk_drew ?_ | refine blk_alloc ?_ _)); exact BK171.out)) : gb174 ≠ gb171)); clear HO167; clear BK171; clear HB; have HO167 := n0_; have BK171 := n1_; have HB := n2_; have BK174 := n3_; have GW174 := n4_; have GE174 := n5_; have NB171_174 := n6_; have NB174_171 := n7_; clear n0_ n1_ n2_ n3_ n4_ n5_ n6_ n7_; clear hb hbox hg; have hnb59 := NB174_171.out; have hnc59 := NB171_174.out; have hcz60_0 : w58.cell? ⟨gb174, 0, none⟩ = some (.int .i64 0) := (blk_cell BK174.out 0).trans rfl; have hcz60_1 : w58.cell? ⟨gb174, 1, none⟩ = some (.int .i64 0) := (blk_cell BK174.out 1).trans rfl; have hfz60_0 := blk_frozen BK174.out 0; have hfz60_1 := blk_frozen BK174.out 1))
    go_ret
    exact ⟨by first | rfl | (simp [errW_none, errW_some] <;> rfl) | (simp [*, errW_none, errW_some] <;> rfl), by repeat (first | (with_reducible first | exact HB.out | apply below_alloc | apply pw_below_drewN | apply below_drew1 | refine below_set ?_ GE171.out | refine below_set ?_ GE174.out) | exact HB.out)⟩

-- NOT PRINTED: function 3 (wisplaw09_TokenNames)

/-! ### wispref09_blank: function 26 -/
def wispref09_blank.f (a0 : Int) : Option (Bool) := if a0 = 9 then (some true) else (if a0 = 10 then (some true) else (if a0 = 13 then (some true) else (some (a0 == 32))))
set_option maxHeartbeats 8000000 in
set_option maxRecDepth 100000 in
theorem wispref09_blank.calls (a0 : Int) (r : Bool) (w : World) (h : wispref09_blank.f a0 = some r) :
    Calls Try.prog 26 #[.int .u8 a0] w fun e w' => e = .returned (.bool r) ∧ Drawn0 w w' := by
  have H : (if a0 = 9 then (some true) else (if a0 = 10 then (some true) else (if a0 = 13 then (some true) else (some (a0 == 32))))) = some r := h
  clear h
  by_cases c2 : a0 = 9
  · rw [if_pos c2] at H
    have c2b0 : (a0 == 9) = true := beq_iff_eq.mpr c2
    have c2b1 : (a0 != 9) = false := bne_eq_false_iff_eq.mpr c2
    clear c2
    obtain rfl := Option.some.inj H
    go_enter Try.func26, Try.ntmps26
    go_wp2
    go_ret
    exact ⟨by first | rfl | (simp; done) | (simp [*]; done) | (simp [isEmpty_ne]; done), by repeat (first | exact Drawn0.refl _ | apply Drawn0.step)⟩
  · rw [if_neg c2] at H
    have c2b0 : (a0 == 9) = false := beq_eq_false_iff_ne.mpr c2
    have c2b1 : (a0 != 9) = true := bne_iff_ne.mpr c2
    by_cases c3 : a0 = 10
    · rw [if_pos c3] at H
      have c3b0 : (a0 == 10) = true := beq_iff_eq.mpr c3
      have c3b1 : (a0 != 10) = false := bne_eq_false_iff_eq.mpr c3
      clear c3
      obtain rfl := Option.some.inj H
      go_enter Try.func26, Try.ntmps26
      go_wp2
      go_ret
      exact ⟨by first | rfl | (simp; done) | (simp [*]; done) | (simp [isEmpty_ne]; done), by repeat (first | exact Drawn0.refl _ | apply Drawn0.step)⟩
    · rw [if_neg c3] at H
      have c3b0 : (a0 == 10) = false := beq_eq_false_iff_ne.mpr c3
      have c3b1 : (a0 != 10) = true := bne_iff_ne.mpr c3
      by_cases c4 : a0 = 13
      · rw [if_pos c4] at H
        have c4b0 : (a0 == 13) = true := beq_iff_eq.mpr c4
        have c4b1 : (a0 != 13) = false := bne_eq_false_iff_eq.mpr c4
        clear c4
        obtain rfl := Option.some.inj H
        go_enter Try.func26, Try.ntmps26
        go_wp2
        go_ret
        exact ⟨by first | rfl | (simp; done) | (simp [*]; done) | (simp [isEmpty_ne]; done), by repeat (first | exact Drawn0.refl _ | apply Drawn0.step)⟩
      · rw [if_neg c4] at H
        have c4b0 : (a0 == 13) = false := beq_eq_false_iff_ne.mpr c4
        have c4b1 : (a0 != 13) = true := bne_iff_ne.mpr c4
        obtain rfl := Option.some.inj H
        go_enter Try.func26, Try.ntmps26
        go_wp2
        go_ret
        exact ⟨by first | rfl | (simp; done) | (simp [*]; done) | (simp [isEmpty_ne]; done), by repeat (first | exact Drawn0.refl _ | apply Drawn0.step)⟩

/-! ### wispref09_letter: function 27 -/
def wispref09_letter.f (a0 : Int) : Option (Bool) := if a0 ≥ 33 then (some (decide (a0 ≤ 126))) else (some false)
set_option maxHeartbeats 8000000 in
set_option maxRecDepth 100000 in
theorem wispref09_letter.calls (a0 : Int) (r : Bool) (w : World) (h : wispref09_letter.f a0 = some r) :
    Calls Try.prog 27 #[.int .u8 a0] w fun e w' => e = .returned (.bool r) ∧ Drawn0 w w' := by
  have H : (if a0 ≥ 33 then (some (decide (a0 ≤ 126))) else (some false)) = some r := h
  clear h
  by_cases c2 : a0 ≥ 33
  · rw [if_pos c2] at H
    have c2b0 : decide (33 ≤ a0) = true := decide_eq_true c2
    clear c2
    obtain rfl := Option.some.inj H
    go_enter Try.func27, Try.ntmps27
    go_wp2
    go_ret
    exact ⟨by first | rfl | (simp; done) | (simp [*]; done) | (simp [isEmpty_ne]; done), by repeat (first | exact Drawn0.refl _ | apply Drawn0.step)⟩
  · rw [if_neg c2] at H
    have c2b0 : decide (33 ≤ a0) = false := decide_eq_false c2
    clear c2
    obtain rfl := Option.some.inj H
    go_enter Try.func27, Try.ntmps27
    go_wp2
    go_ret
    exact ⟨by first | rfl | (simp; done) | (simp [*]; done) | (simp [isEmpty_ne]; done), by repeat (first | exact Drawn0.refl _ | apply Drawn0.step)⟩

/-! ### wispref09_word: function 28 -/
def wispref09_word.l0 : Nat → ByteArray → Int → Option (Int)
  | 0, _, _ => none
  | k + 1, x0, x1 => if x1 < (x0.size : Int) then (if 0 ≤ x1 then ((wispref09_letter.f (bt x0 x1)).bind fun t214 => (if t214 = true then (wispref09_word.l0 k x0 (wrap64 (x1 + 1))) else (some x1))) else (none)) else (some x1)
def wispref09_word.f (k : Nat) (a0 : ByteArray) (a1 : Int) : Option (Int) := wispref09_word.l0 k a0 a1
theorem wispref09_word.mono_l : ∀ k, (∀ y0 y1, LeO (wispref09_word.l0 k y0 y1) (wispref09_word.l0 (k + 1) y0 y1))
  | 0 => fun _ _ r h => by simp [wispref09_word.l0] at h
  | k + 1 => by
    have ih0 := wispref09_word.mono_l k
    · intro y0 y1
      unfold wispref09_word.l0
      repeat' first
      | (with_reducible exact ih0 _ _)
      | (with_reducible exact LeO.refl _)
      | (with_reducible exact LeO.none _)
      | (with_reducible refine LeO.ite ?_ ?_)
      | (with_reducible refine LeO.bind ?_ (fun _ => ?_))
      | exact ih0 _ _
      | exact LeO.none _
      | refine LeO.ite ?_ ?_
      | refine LeO.bind ?_ (fun _ => ?_)
theorem wispref09_word.mono : ∀ a0 a1 k, LeO (wispref09_word.f k a0 a1) (wispref09_word.f (k + 1) a0 a1) := by
  intro a0 a1 k
  have ih0 := wispref09_word.mono_l k
  unfold wispref09_word.f
  repeat' first
      | (with_reducible exact ih0 _ _)
      | (with_reducible exact LeO.refl _)
      | (with_reducible exact LeO.none _)
      | (with_reducible refine LeO.ite ?_ ?_)
      | (with_reducible refine LeO.bind ?_ (fun _ => ?_))
      | exact ih0 _ _
      | exact LeO.none _
      | refine LeO.ite ?_ ?_
      | refine LeO.bind ?_ (fun _ => ?_)
set_option maxHeartbeats 8000000 in
set_option maxRecDepth 100000 in
theorem wispref09_word.calls (k : Nat) (a0 : ByteArray) (a1 : Int) (r : Int) (w : World) (h : wispref09_word.f k a0 a1 = some r) :
    Calls Try.prog 28 #[.string a0, .int .i64 a1] w fun e w' => e = .returned (.int .i64 r) ∧ Drawn0 w w' := by
  have H : (wispref09_word.l0 k a0 a1) = some r := h
  clear h
  have H' := Aside0.mk H
  clear H
  go_enter Try.func28, Try.ntmps28
  go_wp2
  go_loopg [1] k (fun kq v1 w' => ∃ (x1_1 : Int), v1 = .int .i64 x1_1 ∧ Aside0 (wispref09_word.l0 kq a0 x1_1 = some r) ∧ Aside0 (kq ≤ k) ∧ Drawn0 w w')
  case atStart => exact ⟨(a1), (by first | rfl | (simp; done) | (simp [*]; done) | (simp [isEmpty_ne]; done)), H', ⟨Nat.le_refl _⟩, by repeat (first | exact Drawn0.refl _ | apply Drawn0.step)⟩
  case round =>
    clear H'
    try clear c2
    try clear p2
    obtain ⟨x1_1, rfl, HA, HK1, ⟨m1, rfl⟩⟩ := hrel
    cases gk with
    | zero => exact absurd HA.out (by simp [wispref09_word.l0])
    | succ k1 =>
      have H := HA.out
      clear HA
      simp only [wispref09_word.l0] at H
      by_cases c3 : x1_1 < (a0.size : Int)
      · rw [if_pos c3] at H
        have c3b0 : decide (x1_1 < (a0.size : Int)) = true := decide_eq_true c3
        clear c3
        by_cases c4 : 0 ≤ x1_1
        · rw [if_pos c4] at H
          have c4b0 : decide (0 ≤ x1_1) = true := decide_eq_true c4
          clear c4
          replace H := Option.bind_eq_some_iff.mp H
          obtain ⟨t214, A60, H⟩ := H
          replace H : (if t214 = true then (wispref09_word.l0 k1 a0 (wrap64 (x1_1 + 1))) else (some x1_1)) = some r := H
          have A6 := Aside0.mk A60
          clear A60
          by_cases c7 : t214 = true
          · subst c7
            have H1 : (wispref09_word.l0 k1 a0 (wrap64 (x1_1 + 1))) = some r := by rw [if_pos rfl] at H; exact H
            clear H
            have H := H1
            clear H1
            have H' := Aside0.mk H
            clear H
            have p5 : 0 ≤ (x1_1 : Int) := of_decide_eq_true (by first | (with_reducible assumption) | assumption)
            have q5 : x1_1 < (a0.size : Int) := of_decide_eq_true (by first | (with_reducible assumption) | assumption)
            have hx5 := bt_at a0 x1_1
            replace p5 := eq_true p5
            replace q5 := eq_true q5
            go_wp2_with (first | (go_at_call 27; (with_reducible refine (wispref09_letter.calls (bt a0 x1_1) true _ A6.out).mono ?_); rintro e w' ⟨rfl, ⟨nd, rfl⟩⟩))
            go_roundg k1
            case measure => have := HK1.out; omega
            case rel => exact ⟨(wrap64 (x1_1 + 1)), (by first | rfl | (simp; done) | (simp [*]; done) | (simp [isEmpty_ne]; done)), H', ⟨by have := HK1.out; omega⟩, by repeat (first | exact Drawn0.refl _ | apply Drawn0.step)⟩
          · replace c7 := Bool.eq_false_iff.mpr c7
            subst c7
            have H1 : (some x1_1) = some r := by rw [if_neg (show ¬ (false = true) by decide)] at H; exact H
            clear H
            have H := H1
            clear H1
            obtain rfl := Option.some.inj H
            have p5 : 0 ≤ (x1_1 : Int) := of_decide_eq_true (by first | (with_reducible assumption) | assumption)
            have q5 : x1_1 < (a0.size : Int) := of_decide_eq_true (by first | (with_reducible assumption) | assumption)
            have hx5 := bt_at a0 x1_1
            replace p5 := eq_true p5
            replace q5 := eq_true q5
            go_wp2_with (first | (go_at_call 27; (with_reducible refine (wispref09_letter.calls (bt a0 x1_1) false _ A6.out).mono ?_); rintro e w' ⟨rfl, ⟨nd, rfl⟩⟩))
            go_ret
            exact ⟨by first | rfl | (simp; done) | (simp [*]; done) | (simp [isEmpty_ne]; done), by repeat (first | exact Drawn0.refl _ | apply Drawn0.step)⟩
        · rw [if_neg c4] at H
          exact absurd H (by simp)
      · rw [if_neg c3] at H
        have c3b0 : decide (x1_1 < (a0.size : Int)) = false := decide_eq_false c3
        clear c3
        obtain rfl := Option.some.inj H
        go_wp2
        go_ret
        exact ⟨by first | rfl | (simp; done) | (simp [*]; done) | (simp [isEmpty_ne]; done), by repeat (first | exact Drawn0.refl _ | apply Drawn0.step)⟩

/-! ### wispref09_behind: function 29 -/
def wispref09_behind.l0 : Nat → ByteArray → Int → Int → Option (Int)
  | 0, _, _, _ => none
  | k + 1, x0, x1, x2 => if x1 < (x0.size : Int) then (if 0 ≤ x1 then (if (bt x0 x1) = x2 then (some (wrap64 (x1 + 1))) else (wispref09_behind.l0 k x0 (wrap64 (x1 + 1)) x2)) else (none)) else (some (-1))
def wispref09_behind.f (k : Nat) (a0 : ByteArray) (a1 : Int) (a2 : Int) : Option (Int) := wispref09_behind.l0 k a0 a1 a2
theorem wispref09_behind.mono_l : ∀ k, (∀ y0 y1 y2, LeO (wispref09_behind.l0 k y0 y1 y2) (wispref09_behind.l0 (k + 1) y0 y1 y2))
  | 0 => fun _ _ _ r h => by simp [wispref09_behind.l0] at h
  | k + 1 => by
    have ih0 := wispref09_behind.mono_l k
    · intro y0 y1 y2
      unfold wispref09_behind.l0
      repeat' first
      | (with_reducible exact ih0 _ _ _)
      | (with_reducible exact LeO.refl _)
      | (with_reducible exact LeO.none _)
      | (with_reducible refine LeO.ite ?_ ?_)
      | (with_reducible refine LeO.bind ?_ (fun _ => ?_))
      | exact ih0 _ _ _
      | exact LeO.none _
      | refine LeO.ite ?_ ?_
      | refine LeO.bind ?_ (fun _ => ?_)
theorem wispref09_behind.mono : ∀ a0 a1 a2 k, LeO (wispref09_behind.f k a0 a1 a2) (wispref09_behind.f (k + 1) a0 a1 a2) := by
  intro a0 a1 a2 k
  have ih0 := wispref09_behind.mono_l k
  unfold wispref09_behind.f
  repeat' first
      | (with_reducible exact ih0 _ _ _)
      | (with_reducible exact LeO.refl _)
      | (with_reducible exact LeO.none _)
      | (with_reducible refine LeO.ite ?_ ?_)
      | (with_reducible refine LeO.bind ?_ (fun _ => ?_))
      | exact ih0 _ _ _
      | exact LeO.none _
      | refine LeO.ite ?_ ?_
      | refine LeO.bind ?_ (fun _ => ?_)
set_option maxHeartbeats 8000000 in
set_option maxRecDepth 100000 in
theorem wispref09_behind.calls (k : Nat) (a0 : ByteArray) (a1 : Int) (a2 : Int) (r : Int) (w : World) (h : wispref09_behind.f k a0 a1 a2 = some r) :
    Calls Try.prog 29 #[.string a0, .int .i64 a1, .int .u8 a2] w fun e w' => e = .returned (.int .i64 r) ∧ Drawn0 w w' := by
  have H : (wispref09_behind.l0 k a0 a1 a2) = some r := h
  clear h
  have H' := Aside0.mk H
  clear H
  go_enter Try.func29, Try.ntmps29
  go_wp2
  go_loopg [1] k (fun kq v1 w' => ∃ (x1_1 : Int), v1 = .int .i64 x1_1 ∧ Aside0 (wispref09_behind.l0 kq a0 x1_1 a2 = some r) ∧ Aside0 (kq ≤ k) ∧ Drawn0 w w')
  case atStart => exact ⟨(a1), (by first | rfl | (simp; done) | (simp [*]; done) | (simp [isEmpty_ne]; done)), H', ⟨Nat.le_refl _⟩, by repeat (first | exact Drawn0.refl _ | apply Drawn0.step)⟩
  case round =>
    clear H'
    try clear c2
    try clear p2
    obtain ⟨x1_1, rfl, HA, HK1, ⟨m1, rfl⟩⟩ := hrel
    cases gk with
    | zero => exact absurd HA.out (by simp [wispref09_behind.l0])
    | succ k1 =>
      have H := HA.out
      clear HA
      simp only [wispref09_behind.l0] at H
      by_cases c4 : x1_1 < (a0.size : Int)
      · rw [if_pos c4] at H
        have c4b0 : decide (x1_1 < (a0.size : Int)) = true := decide_eq_true c4
        clear c4
        by_cases c5 : 0 ≤ x1_1
        · rw [if_pos c5] at H
          have c5b0 : decide (0 ≤ x1_1) = true := decide_eq_true c5
          clear c5
          by_cases c7 : (bt a0 x1_1) = a2
          · rw [if_pos c7] at H
            have c7b0 : ((bt a0 x1_1) == a2) = true := beq_iff_eq.mpr c7
            have c7b1 : ((bt a0 x1_1) != a2) = false := bne_eq_false_iff_eq.mpr c7
            clear c7
            obtain rfl := Option.some.inj H
            have p6 : 0 ≤ (x1_1 : Int) := of_decide_eq_true (by first | (with_reducible assumption) | assumption)
            have q6 : x1_1 < (a0.size : Int) := of_decide_eq_true (by first | (with_reducible assumption) | assumption)
            have hx6 := bt_at a0 x1_1
            replace p6 := eq_true p6
            replace q6 := eq_true q6
            go_wp2
            go_ret
            exact ⟨by first | rfl | (simp; done) | (simp [*]; done) | (simp [isEmpty_ne]; done), by repeat (first | exact Drawn0.refl _ | apply Drawn0.step)⟩
          · rw [if_neg c7] at H
            have c7b0 : ((bt a0 x1_1) == a2) = false := beq_eq_false_iff_ne.mpr c7
            have c7b1 : ((bt a0 x1_1) != a2) = true := bne_iff_ne.mpr c7
            have H' := Aside0.mk H
            clear H
            have p6 : 0 ≤ (x1_1 : Int) := of_decide_eq_true (by first | (with_reducible assumption) | assumption)
            have q6 : x1_1 < (a0.size : Int) := of_decide_eq_true (by first | (with_reducible assumption) | assumption)
            have hx6 := bt_at a0 x1_1
            replace p6 := eq_true p6
            replace q6 := eq_true q6
            go_wp2
            go_roundg k1
            case measure => have := HK1.out; omega
            case rel => exact ⟨(wrap64 (x1_1 + 1)), (by first | rfl | (simp; done) | (simp [*]; done) | (simp [isEmpty_ne]; done)), H', ⟨by have := HK1.out; omega⟩, by repeat (first | exact Drawn0.refl _ | apply Drawn0.step)⟩
        · rw [if_neg c5] at H
          exact absurd H (by simp)
      · rw [if_neg c4] at H
        have c4b0 : decide (x1_1 < (a0.size : Int)) = false := decide_eq_false c4
        clear c4
        obtain rfl := Option.some.inj H
        go_wp2
        go_ret
        exact ⟨by first | rfl | (simp; done) | (simp [*]; done) | (simp [isEmpty_ne]; done), by repeat (first | exact Drawn0.refl _ | apply Drawn0.step)⟩

end Go.Proofs.Ytembdahclmffjaa.P
