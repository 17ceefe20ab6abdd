/- CartDecodes, as the card says it: for all bytes the call returns true and the argument reads as before: of any bytes the cartridge, or the first error; what is handed out is new memory, twice. Condition: the package's table holds what its text lays (the card ties it). -/
import Derived.Test.YtembdahclmffjaaDoorRows
import Derived.Test.YtembdahclmffjaaDoorTie
import Derived.Test.YtembdahclmffjaaDoorCards
import Derived.Test.YtembdahclmffjaaDoorCd
import Derived.Test.YtembdahclmffjaaDoorCg
import Derived.Test.YtembdahclmffjaaDoorOp
import Derived.Test.YtembdahclmffjaaDoorWSized
import Derived.Test.YtembdahclmffjaaDoorLaid
import Derived.ChangeOld
import Derived.SizedLaws
import Derived.Deep.DeepHandedRow
namespace Go.Proofs.YtembdahclmffjaaDoor.cartDecodes
open Go Go.ChangeShapes Go.WideShapes Go.ChangeAt Go.RowKit
open Go.Proofs.YtembdahclmffjaaDoorW.PrintWords
set_option linter.unusedVariables false
abbrev spec := Rows.cartDecodesSpec

set_option maxRecDepth 100000 in
theorem lifted (os : Os) (started : os.Started) (H : Type) (enc : TypeId × Value → H) :
    ReturnsInHanded {} Tryd.checked os 3 .any (fun w args => (Rows.cartDecodesSpec.pre enc Tryd.prog Tryd.f3 [] false w args ∧ laidMetH Tryd.prog Laid.laid w) ∧ sizedMet enc Tryd.prog Tryd.f3 (OpenSpec.ofChange Rows.cartDecodesSpec) false w args)
      (Rows.cartDecodesSpec.post enc Tryd.prog Tryd.f3 false true false false) := by
  refine returnsInHanded_of_change_and (C := Tryd.checked) (X := fun w _ => laidMetH Tryd.prog Laid.laid w) (fun _ _ _ hh h => h.of_heap hh) Laid.own started (by kernel_rfl) Tryd.func3
    (ChangeSpec.witness_shaped (enc := enc) (C := Tryd.checked) (os := os) (X := fun w _ => laidMetH Tryd.prog Laid.laid w) false (World.doorLaid Tryd.prog 400 os) #[.slice none 0 0] 8 rfl (World.shaped_of_RefB (by kernel_rfl) (by kernel_rfl)) (by kernel_rfl) (by kernel_rfl) (by kernel_rfl) (Laid.met os _)) ?_
  intro W base args ds gs before hval0 hW _ hsz0 hL _
  have hT := Laid.tab hL
  have hsz : (DataW.weightsEach Tryd.prog (Tryd.f3.params.toList ++ Rows.cartDecodesSpec.plain.varTypes Tryd.prog) (ds ++ gs)).all (· ≤ reachBytes) = true := hsz0
  have hval : ∀ (j : Nat) t v, Tryd.f3.params[j]? = some t → args[j]? = some v → Value.okWide Tryd.prog W .any base t v := hval0
  have hW' := hW
  obtain ⟨p, q, hA0, hV, rfl, hfz, hnd⟩ := hW
  have hA : DataW.TrodAll enc Tryd.prog W 0 (fun _ => true) true Tryd.f3.params.toList args.toList ds p := hA0
  rw [Tryd.params3] at hA hval hsz
  obtain ⟨v0, vs0, d0, ds0, p0, q0, hargs, rfl, rfl, h0, r0⟩ := trodAll_cons hA
  obtain ⟨rfl, rfl, rfl⟩ := trodAll_nil r0
  obtain rfl : args = #[v0] := by cases args; simp_all
  obtain ⟨rfl, rfl⟩ := trodVars_none hV
  obtain ⟨a0, len0, cap0, rfl⟩ := okWide_slice Tryd.underlying22 (hval 0 22 v0 rfl rfl)
  have k0 := h0
  have lt0 : ∀ x ∈ p0, x.block < W.heap.size := by obtain ⟨m, hm⟩ := k0; exact DataW.trod_lt m _ _ _ hm
  have y0 := Pk.sized_any hsz (j := 0) (t := 22) rfl rfl Tryd.underlying22 (B := 1) (by kernel_rfl) h0
  obtain ⟨xs0, hl0, hcap0, hC0, hw0, hb0⟩ := Op.slice_arg (Pk.is_bytes enc W) h0
  subst hl0
  clear hA0 hval0 hsz0
  have hB0 : Pk.allB xs0 := fun y hy => Pk.wfB (hw0 y hy)
  refine (Pk.Decodes hT hC0 rfl hcap0 hB0 (by omega)).mono fun e W' ⟨he, bel⟩ => ?_
  subst he
  exact ⟨_, rfl, _, _, _, [], _, [], hW', trodAll_mk1 (shut_bool Tryd.underlying4 _), (trodAll_cons_mk (Below.trod Laid.laidOut (by kernel_rfl) (of_decide_eq_true (by kernel_rfl)) k0 bel lt0) trodAll_mk0), rfl, bel.frame _, fun h => by cases h⟩
theorem over : Rows.CartDecodesSaid :=
  OpenClaim.holds_of_wide 3 Tryd.f3 rfl rfl rfl rfl rfl rfl rfl ⟨rfl, rfl, rfl, rfl, rfl⟩ rfl rfl rfl rfl rfl (by kernel_rfl) Tryd.func3 (by kernel_rfl)
    (of_decide_eq_true (by kernel_rfl)) (by unfold Func.isWrapper; first | (rw [if_pos (by decide +kernel)]; kernel_rfl) | (rw [if_neg (by decide +kernel)]; exact ⟨rfl, rfl⟩))
    (fun os started H enc _ => lifted os started H enc)
theorem card : Rows.CartDecodesCardSaid :=
  Claim7.holds_tied_plain_at .later [] [.data] true Rows.cartDecodesCard.stood.harness true
    over (fun _ h => by cases h) (by kernel_rfl) (fun _ h => by cases h) cartDecodes_row_tie rfl ⟨rfl, rfl⟩ (by kernel_rfl) rfl
    (fun f fn hf hfn => by
      obtain rfl : f = 3 := Option.some.inj ((show Tryd.prog.funcNamed "wisp/wisplaw07.CartDecodes" = some 3 by kernel_rfl).symm.trans hf) |>.symm
      obtain rfl : fn = Tryd.f3 := (Option.some.inj (Tryd.func3.symm.trans hfn)).symm
      exact ⟨by kernel_rfl, fun j t ht => by
        rw [Tryd.params3] at ht
        have hm : t ∈ [22] := by simpa using Array.mem_of_getElem? ht
        have hall : ([22].all fun u => !Tryd.prog.wantsStandIn u) = true := by kernel_rfl
        exact (show Tryd.prog.wantsStandIn t = false by simpa using List.all_eq_true.1 hall t hm)⟩)
    (by kernel_rfl)
end Go.Proofs.YtembdahclmffjaaDoor.cartDecodes
namespace Go.Proofs.YtembdahclmffjaaDoor
/-- The card, under a short name, for the claim. -/
theorem cartDecodes_holds : Rows.CartDecodesCardSaid := cartDecodes.card
#print axioms cartDecodes_holds
end Go.Proofs.YtembdahclmffjaaDoor
