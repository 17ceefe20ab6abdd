/- PackReads, as the card says it where what is read is of bulk at most 1048576: for every script over any bytes the call returns true and the arguments read as before: what is taken up, what is left, the error that stays. Condition: the package's table holds what its text lays (the card ties it). -/
import Derived.Test.YtgnjlgfnpfjjnaaDoorRows
import Derived.Test.YtgnjlgfnpfjjnaaDoorTie
import Derived.Test.YtgnjlgfnpfjjnaaDoorCards
import Derived.Test.YtgnjlgfnpfjjnaaDoorRe
import Derived.Test.YtgnjlgfnpfjjnaaDoorOp
import Derived.Test.YtgnjlgfnpfjjnaaDoorWSized
import Derived.Test.YtgnjlgfnpfjjnaaDoorLaid
import Derived.ChangeOld
import Derived.SizedLaws
import Derived.Deep.DeepHandedRow
namespace Go.Proofs.YtgnjlgfnpfjjnaaDoor.packReads
open Go Go.ChangeShapes Go.WideShapes Go.ChangeAt Go.RowKit
open Go.Proofs.YtgnjlgfnpfjjnaaDoorW.PrintWords
set_option linter.unusedVariables false
abbrev spec : OpenSpec := Rows.OpenSpec.upto Rows.packReadsSpec
theorem bytes {H : Type} (enc : TypeId × Value → H) (W : World) : Op.Is enc Tryd.prog W 23 (Kd.slice 5 (Kd.int .u8)) (fun l => ∀ x ∈ l, (Lit.int .u8 x).wf = true) (fun l => (l.map fun _ => 1).sum + 1) :=
  Op.Is.slice Tryd.underlying23 (by kernel_rfl) (Op.Is.int Tryd.underlying5)
theorem takes {H : Type} (enc : TypeId × Value → H) (W : World) : Op.Is enc Tryd.prog W 45 (Kd.slice 53 Pk.kTk) (fun _ => True) (fun l => (l.map fun x => 1 + 1).sum + 1) :=
  (Op.Is.slice Tryd.underlying45 (by kernel_rfl) (Op.Is.struct2 Tryd.underlying53 (by kernel_rfl) ⟨rfl, by kernel_rfl⟩ ⟨rfl, by kernel_rfl⟩ (Op.Is.int Tryd.underlying3) (Op.Is.int Tryd.underlying3))).mono (fun _ _ => trivial) (fun _ => Nat.le_refl _)
theorem ones : ∀ x : List Int, (x.map fun _ => 1).sum = x.length
  | [] => rfl
  | a :: x => by rw [List.map_cons, List.sum_cons, ones x, List.length_cons]; omega
theorem take_sum : ∀ l : List Pk.TkT, l.length ≤ (l.map fun x => 1 + 1).sum
  | [] => by simp
  | p :: l => by
    have h := take_sum l
    simp only [List.map_cons, List.sum_cons, List.length_cons]
    omega
theorem witness_row (os : Os) {H : Type} (enc : TypeId × Value → H) :
    spec.preRow enc Tryd.prog Tryd.f6 [] false Laid.laid ((World.doorLaid Tryd.prog 400 os).forCall (fun _ _ => 0) ⟨#[], #[.slice none 0 0, .slice none 0 0], []⟩).memory #[.slice none 0 0, .slice none 0 0] := by
  have hw : (DataW.whole enc Tryd.prog ((World.doorLaid Tryd.prog 400 os).forCall (fun _ _ => 0) ⟨#[], #[.slice none 0 0, .slice none 0 0], []⟩).memory Tryd.f6.params.toList spec.vars false #[Value.slice none 0 0, Value.slice none 0 0].toList 8).map (fun x => (x.1, x.2.1)) = some ([.nil, .nil], []) := by kernel_rfl
  obtain ⟨⟨x1, x2, x3⟩, hx, hx1⟩ := Option.map_eq_some_iff.1 hw
  simp only [Prod.mk.injEq] at hx1
  obtain ⟨rfl, rfl⟩ := hx1
  exact OpenSpec.preRow_of_cond 8 hx (by kernel_rfl) (fun k hk => by cases hk; rfl) (by kernel_rfl) (Laid.met os _)
set_option maxRecDepth 100000 in
theorem lifted (os : Os) (started : os.Started) (H : Type) (enc : TypeId × Value → H) (F : Stop.Interp) :
    ReturnsInHanded {} Tryd.checked os 6 .any (spec.preRow enc Tryd.prog Tryd.f6 [] false Laid.laid) ((spec.at F).post enc Tryd.prog Tryd.f6 false true false false) := by
  refine returnsInHanded_of_row (C := Tryd.checked) (s := spec) Laid.own started (by kernel_rfl) Tryd.func6
    (witness_row_at (enc := enc) (C := Tryd.checked) false (World.doorLaid Tryd.prog 400 os) #[.slice none 0 0, .slice none 0 0] rfl (by kernel_rfl) (by kernel_rfl) (by kernel_rfl) (witness_row os enc)) ?_
  intro W base args ds gs before hval0 hW _ hk _ hL _ _
  have hT := Laid.tab hL
  have hbk := hk _ rfl
  have hval : ∀ (j : Nat) t v, Tryd.f6.params[j]? = some t → args[j]? = some v → Value.okWide Tryd.prog W .any base t v := hval0
  have hW' := hW
  obtain ⟨p, q, hA0, hV, rfl, hfz, hnd⟩ := hW
  have hA : DataW.TrodAll enc Tryd.prog W 0 (fun _ => true) true Tryd.f6.params.toList args.toList ds p := hA0
  rw [Tryd.params6] at hA hval
  obtain ⟨v0, vs0, d0, ds0, p0, q0, hargs, rfl, rfl, h0, r0⟩ := trodAll_cons hA
  obtain ⟨v1, vs1, d1, ds1, p1, q1, rfl, rfl, rfl, h1, r1⟩ := trodAll_cons r0
  obtain ⟨rfl, rfl, rfl⟩ := trodAll_nil r1
  obtain rfl : args = #[v0, v1] := by cases args; simp_all
  obtain ⟨rfl, rfl⟩ := trodVars_none hV
  obtain ⟨a0, len0, cap0, rfl⟩ := okWide_slice Tryd.underlying23 (hval 0 23 v0 rfl rfl)
  obtain ⟨a1, len1, cap1, rfl⟩ := okWide_slice Tryd.underlying45 (hval 1 45 v1 rfl rfl)
  have k0 := h0
  have k1 := h1
  have lt0 : ∀ x ∈ p0, x.block < W.heap.size := by obtain ⟨m, hm⟩ := k0; exact DataW.trod_lt m _ _ _ hm
  have lt1 : ∀ x ∈ p1, x.block < W.heap.size := by obtain ⟨m, hm⟩ := k1; exact DataW.trod_lt m _ _ _ hm
  obtain ⟨xs0, hl0, hcap0, hC0, hw0, hb0⟩ := Op.slice_arg (bytes enc W) h0
  subst hl0
  obtain ⟨xs1, hl1, hcap1, hC1, hw1, hb1⟩ := Op.slice_arg (takes enc W) h1
  subst hl1
  have hsm : Rows.uptoBulkAll [d0, d1] ≤ 1048576 := of_decide_eq_true hbk
  simp only [Rows.uptoBulkAll] at hsm
  clear hA0 hval0
  have e0 := ones xs0
  have e1 := take_sum xs1
  rw [e0] at hb0
  have hB : Pk.allB xs0 := fun y hy => Pk.wfB (hw0 y hy)
  refine (Pk.Reads (c := cap0) (c2 := cap1) hT hC0 hB (by omega) hC1 (by omega)).mono fun e W' ⟨he, bel⟩ => ?_
  subst he
  exact ⟨_, rfl, _, _, _, [], _, [], hW', trodAll_mk1 (shut_bool Tryd.underlying4 _), (trodAll_cons_mk (Below.trod Laid.laidOut (by kernel_rfl) (of_decide_eq_true (by kernel_rfl)) k0 bel lt0) (trodAll_cons_mk (Below.trod Laid.laidOut (by kernel_rfl) (of_decide_eq_true (by kernel_rfl)) k1 bel lt1) trodAll_mk0)), rfl, bel.frame _, fun h => by cases h⟩
theorem over : Rows.PackReadsUptoSaid :=
  OpenClaim.holds_of_cond 6 Tryd.f6 rfl rfl rfl rfl rfl rfl rfl ⟨rfl, rfl, rfl, rfl, rfl⟩ rfl rfl rfl rfl rfl (by kernel_rfl) Tryd.func6 (by kernel_rfl)
    (of_decide_eq_true (by kernel_rfl)) (by unfold Func.isWrapper; first | (rw [if_pos (by decide +kernel)]; kernel_rfl) | (rw [if_neg (by decide +kernel)]; exact ⟨rfl, rfl⟩))
    (fun os started H enc _ F0 => by rw [OpenClaim.pre_eq_preRow]; exact lifted os started H enc F0)
theorem card : Rows.PackReadsUptoCardSaid :=
  Claim7.holds_tied_plain_at .later [] [.data] true Rows.packReadsUptoCard.stood.harness false
    over (fun _ h => by cases h) (by kernel_rfl) (fun _ h => by cases h) packReadsUpto_row_tie rfl ⟨rfl, rfl⟩ (by kernel_rfl) rfl
    (fun f fn hf hfn => by
      obtain rfl : f = 6 := Option.some.inj ((show Tryd.prog.funcNamed "wisp/wisplaw03.PackReads" = some 6 by kernel_rfl).symm.trans hf) |>.symm
      obtain rfl : fn = Tryd.f6 := (Option.some.inj (Tryd.func6.symm.trans hfn)).symm
      exact ⟨by kernel_rfl, fun j t ht => by
        rw [Tryd.params6] at ht
        have hm : t ∈ [23, 45] := by simpa using Array.mem_of_getElem? ht
        have hall : ([23, 45].all fun u => !Tryd.prog.wantsStandIn u) = true := by kernel_rfl
        exact (show Tryd.prog.wantsStandIn t = false by simpa using List.all_eq_true.1 hall t hm)⟩)
    (by kernel_rfl)
end Go.Proofs.YtgnjlgfnpfjjnaaDoor.packReads
namespace Go.Proofs.YtgnjlgfnpfjjnaaDoor
/-- The card, under a short name, for the claim. -/
theorem packReads_holds : Rows.PackReadsUptoCardSaid := packReads.card
#print axioms packReads_holds
end Go.Proofs.YtgnjlgfnpfjjnaaDoor
