/- CartTables, as the card says it: for every number, count, table and bytes the call returns true and the arguments read as before: bytes with any table, any sections behind it and the right sum: the document's answer. Condition: the package's table holds what its text lays (the card ties it). -/
import Derived.Test.YtembdahclmffjaaDoorRows
import Derived.Test.YtembdahclmffjaaDoorTie
import Derived.Test.YtembdahclmffjaaDoorCards
import Derived.Test.YtembdahclmffjaaDoorTl
import Derived.Test.YtembdahclmffjaaDoorOp
import Derived.Test.YtembdahclmffjaaDoorWSized
import Derived.Test.YtembdahclmffjaaDoorLaid
import Derived.ChangeOld
import Derived.SizedLaws
import Derived.Deep.DeepHandedRow
namespace Go.Proofs.YtembdahclmffjaaDoor.cartTables
open Go Go.ChangeShapes Go.WideShapes Go.ChangeAt Go.RowKit
open Go.Proofs.YtembdahclmffjaaDoorW.PrintWords
set_option linter.unusedVariables false
abbrev spec := Rows.cartTablesSpec

set_option maxRecDepth 100000 in
theorem lifted (os : Os) (started : os.Started) (H : Type) (enc : TypeId × Value → H) :
    ReturnsInHanded {} Tryd.checked os 6 .any (fun w args => (Rows.cartTablesSpec.pre enc Tryd.prog Tryd.f6 [] false w args ∧ laidMetH Tryd.prog Laid.laid w) ∧ sizedMet enc Tryd.prog Tryd.f6 (OpenSpec.ofChange Rows.cartTablesSpec) false w args)
      (Rows.cartTablesSpec.post enc Tryd.prog Tryd.f6 false true false false) := by
  refine returnsInHanded_of_change_and (C := Tryd.checked) (X := fun w _ => laidMetH Tryd.prog Laid.laid w) (fun _ _ _ hh h => h.of_heap hh) Laid.own started (by kernel_rfl) Tryd.func6
    (ChangeSpec.witness_shaped (enc := enc) (C := Tryd.checked) (os := os) (X := fun w _ => laidMetH Tryd.prog Laid.laid w) false (World.doorLaid Tryd.prog 400 os) #[.int .u16 0, .int .u8 0, .slice none 0 0, .slice none 0 0] 8 rfl (World.shaped_of_RefB (by kernel_rfl) (by kernel_rfl)) (by kernel_rfl) (by kernel_rfl) (by kernel_rfl) (Laid.met os _)) ?_
  intro W base args ds gs before hval0 hW _ hsz0 hL _
  have hT := Laid.tab hL
  have hsz : (DataW.weightsEach Tryd.prog (Tryd.f6.params.toList ++ Rows.cartTablesSpec.plain.varTypes Tryd.prog) (ds ++ gs)).all (· ≤ reachBytes) = true := hsz0
  have hval : ∀ (j : Nat) t v, Tryd.f6.params[j]? = some t → args[j]? = some v → Value.okWide Tryd.prog W .any base t v := hval0
  have hW' := hW
  obtain ⟨p, q, hA0, hV, rfl, hfz, hnd⟩ := hW
  have hA : DataW.TrodAll enc Tryd.prog W 0 (fun _ => true) true Tryd.f6.params.toList args.toList ds p := hA0
  rw [Tryd.params6] at hA hval hsz
  obtain ⟨v0, vs0, d0, ds0, p0, q0, hargs, rfl, rfl, h0, r0⟩ := trodAll_cons hA
  obtain ⟨v1, vs1, d1, ds1, p1, q1, rfl, rfl, rfl, h1, r1⟩ := trodAll_cons r0
  obtain ⟨v2, vs2, d2, ds2, p2, q2, rfl, rfl, rfl, h2, r2⟩ := trodAll_cons r1
  obtain ⟨v3, vs3, d3, ds3, p3, q3, rfl, rfl, rfl, h3, r3⟩ := trodAll_cons r2
  obtain ⟨rfl, rfl, rfl⟩ := trodAll_nil r3
  obtain rfl : args = #[v0, v1, v2, v3] := by cases args; simp_all
  obtain ⟨rfl, rfl⟩ := trodVars_none hV
  obtain ⟨a2, len2, cap2, rfl⟩ := okWide_slice Tryd.underlying48 (hval 2 48 v2 rfl rfl)
  obtain ⟨a3, len3, cap3, rfl⟩ := okWide_slice Tryd.underlying22 (hval 3 22 v3 rfl rfl)
  have k0 := h0
  have k1 := h1
  have k2 := h2
  have k3 := h3
  have lt0 : ∀ x ∈ p0, x.block < W.heap.size := by obtain ⟨m, hm⟩ := k0; exact DataW.trod_lt m _ _ _ hm
  have lt1 : ∀ x ∈ p1, x.block < W.heap.size := by obtain ⟨m, hm⟩ := k1; exact DataW.trod_lt m _ _ _ hm
  have lt2 : ∀ x ∈ p2, x.block < W.heap.size := by obtain ⟨m, hm⟩ := k2; exact DataW.trod_lt m _ _ _ hm
  have lt3 : ∀ x ∈ p3, x.block < W.heap.size := by obtain ⟨m, hm⟩ := k3; exact DataW.trod_lt m _ _ _ hm
  obtain ⟨m0, hm0⟩ := h0
  obtain ⟨x0, e0, hx0, hwf0⟩ := DataW.trod_int Tryd.underlying24 hm0
  obtain ⟨x0', rfl⟩ := okWide_int Tryd.underlying24 (hval 0 24 v0 rfl rfl)
  obtain rfl : x0 = x0' := by simpa [Value.cells, eq_comm] using e0
  obtain ⟨m1, hm1⟩ := h1
  obtain ⟨x1, e1, hx1, hwf1⟩ := DataW.trod_int Tryd.underlying5 hm1
  obtain ⟨x1', rfl⟩ := okWide_int Tryd.underlying5 (hval 1 5 v1 rfl rfl)
  obtain rfl : x1 = x1' := by simpa [Value.cells, eq_comm] using e1
  obtain ⟨xs2, hl2, hcap2, hC2, hw2, hb2⟩ := Op.slice_arg (Pk.is_pcs enc W) h2
  subst hl2
  have y3 := Pk.sized_any hsz (j := 3) (t := 22) rfl rfl Tryd.underlying22 (B := 1) (by kernel_rfl) h3
  obtain ⟨xs3, hl3, hcap3, hC3, hw3, hb3⟩ := Op.slice_arg (Pk.is_bytes enc W) h3
  subst hl3
  clear hA0 hval0 hsz0
  have hB0 := Pk.wf16 hwf0
  have hB1 : Pk.isB x1 := Pk.wfB hwf1
  have hB2 : ∀ y ∈ xs2, Pk.okPc y := fun y hy => ⟨Pk.wfB (hw2 y hy).1, Pk.wfB (hw2 y hy).2.1, Pk.wf32 (hw2 y hy).2.2.1, Pk.wf32 (hw2 y hy).2.2.2⟩
  have hB3 : Pk.allB xs3 := fun y hy => Pk.wfB (hw3 y hy)
  refine (Pk.Tables hT hB0.1 hB0.2 hB1 hC2 rfl hB2 hC3 rfl hcap3 hB3 (by omega)).mono fun e W' ⟨he, bel⟩ => ?_
  subst he
  exact ⟨_, rfl, _, _, _, [], _, [], hW', trodAll_mk1 (shut_bool Tryd.underlying4 _), (trodAll_cons_mk (Below.trod Laid.laidOut (by kernel_rfl) (of_decide_eq_true (by kernel_rfl)) k0 bel lt0) (trodAll_cons_mk (Below.trod Laid.laidOut (by kernel_rfl) (of_decide_eq_true (by kernel_rfl)) k1 bel lt1) (trodAll_cons_mk (Below.trod Laid.laidOut (by kernel_rfl) (of_decide_eq_true (by kernel_rfl)) k2 bel lt2) (trodAll_cons_mk (Below.trod Laid.laidOut (by kernel_rfl) (of_decide_eq_true (by kernel_rfl)) k3 bel lt3) trodAll_mk0)))), rfl, bel.frame _, fun h => by cases h⟩
theorem over : Rows.CartTablesSaid :=
  OpenClaim.holds_of_wide 6 Tryd.f6 rfl rfl rfl rfl rfl rfl rfl ⟨rfl, rfl, rfl, rfl, rfl⟩ rfl rfl rfl rfl rfl (by kernel_rfl) Tryd.func6 (by kernel_rfl)
    (of_decide_eq_true (by kernel_rfl)) (by unfold Func.isWrapper; first | (rw [if_pos (by decide +kernel)]; kernel_rfl) | (rw [if_neg (by decide +kernel)]; exact ⟨rfl, rfl⟩))
    (fun os started H enc _ => lifted os started H enc)
theorem card : Rows.CartTablesCardSaid :=
  Claim7.holds_tied_plain_at .later [] [.data] true Rows.cartTablesCard.stood.harness true
    over (fun _ h => by cases h) (by kernel_rfl) (fun _ h => by cases h) cartTables_row_tie rfl ⟨rfl, rfl⟩ (by kernel_rfl) rfl
    (fun f fn hf hfn => by
      obtain rfl : f = 6 := Option.some.inj ((show Tryd.prog.funcNamed "wisp/wisplaw07.CartTables" = some 6 by kernel_rfl).symm.trans hf) |>.symm
      obtain rfl : fn = Tryd.f6 := (Option.some.inj (Tryd.func6.symm.trans hfn)).symm
      exact ⟨by kernel_rfl, fun j t ht => by
        rw [Tryd.params6] at ht
        have hm : t ∈ [24, 5, 48, 22] := by simpa using Array.mem_of_getElem? ht
        have hall : ([24, 5, 48, 22].all fun u => !Tryd.prog.wantsStandIn u) = true := by kernel_rfl
        exact (show Tryd.prog.wantsStandIn t = false by simpa using List.all_eq_true.1 hall t hm)⟩)
    (by kernel_rfl)
end Go.Proofs.YtembdahclmffjaaDoor.cartTables
namespace Go.Proofs.YtembdahclmffjaaDoor
/-- The card, under a short name, for the claim. -/
theorem cartTables_holds : Rows.CartTablesCardSaid := cartTables.card
#print axioms cartTables_holds
end Go.Proofs.YtembdahclmffjaaDoor
