/- LayoutFollows, as the row says it where what is read is of bulk at most 1048576: for all programs and numbers the call returns true: places follow one another without a gap, and the places of a program's first definitions are its first places. -/
import Derived.Test.YtjphhnhloeanlaaRows
import Derived.Test.YtjphhnhloeanlaaLw
import Derived.Test.YtjphhnhloeanlaaLm
import Derived.WalkKit
import Derived.ProofKit
import Derived.OpenShut
import Derived.ShutString
import Derived.Below
import Derived.ChangeOld
import Derived.SizedLaws
import Derived.Deep.DeepHandedRow
namespace Go.Proofs.Ytjphhnhloeanlaa.layoutFollows
open Go Go.ChangeShapes Go.WideShapes Go.ChangeAt Go.RowKit
open Go.ChangeMaps (open_string shut_string)
open Go.Proofs.YtjphhnhloeanlaaW.PrintWords
set_option linter.unusedVariables false
set_option linter.unusedSimpArgs false
theorem own : ownKnob Try.prog.godebug = none := by kernel_rfl
theorem laidOut : laidOutB Try.prog = true := by kernel_rfl
abbrev spec : OpenSpec := Rows.OpenSpec.upto Rows.layoutFollowsSpec

theorem witness_row (os : Os) {H : Type} (enc : TypeId × Value → H) :
    spec.preRow enc Try.prog Try.f5 [] false [] ((World.holding Try.prog os ⟨#[], #[(.agg #[.slice none 0 0, .slice none 0 0]), .int .i64 0], []⟩).forCall (fun _ _ => 0) ⟨#[], #[(.agg #[.slice none 0 0, .slice none 0 0]), .int .i64 0], []⟩).memory #[(.agg #[.slice none 0 0, .slice none 0 0]), .int .i64 0] := by
  have hw : (DataW.whole enc Try.prog ((World.holding Try.prog os ⟨#[], #[(.agg #[.slice none 0 0, .slice none 0 0]), .int .i64 0], []⟩).forCall (fun _ _ => 0) ⟨#[], #[(.agg #[.slice none 0 0, .slice none 0 0]), .int .i64 0], []⟩).memory Try.f5.params.toList spec.vars false #[(Value.agg #[.slice none 0 0, .slice none 0 0]), Value.int .i64 0].toList 8).map (fun x => (x.1, x.2.1)) = some ([(.agg [.nil, .nil]), (.lit (.int .i64 0))], []) := by kernel_rfl
  obtain ⟨⟨x1, x2, x3⟩, hx, hx1⟩ := Option.map_eq_some_iff.1 hw
  simp only [Prod.mk.injEq] at hx1
  obtain ⟨rfl, rfl⟩ := hx1
  exact OpenSpec.preRow_of_cond 8 hx (by kernel_rfl) (fun k hk => by cases hk; rfl) (by kernel_rfl) (laidMetH_nil _ _)
set_option maxRecDepth 100000 in
set_option maxHeartbeats 4000000 in
theorem lifted (os : Os) (started : os.Started) (H : Type) (enc : TypeId × Value → H) (F : Stop.Interp) :
    ReturnsInHanded {} Try.checked os 5 .any (spec.preRow enc Try.prog Try.f5 [] false []) ((spec.at F).post enc Try.prog Try.f5 false true false false) := by
  refine returnsInHanded_of_row (C := Try.checked) (s := spec) own started (by kernel_rfl) Try.func5
    (witness_row_at (enc := enc) (C := Try.checked) false (World.holding Try.prog os ⟨#[], #[(.agg #[.slice none 0 0, .slice none 0 0]), .int .i64 0], []⟩) #[(.agg #[.slice none 0 0, .slice none 0 0]), .int .i64 0] rfl (by kernel_rfl) (by kernel_rfl) (by kernel_rfl) (witness_row os enc)) ?_
  intro W base args ds gs before hval0 hW _ hk _ hL _ _
  have hbk := hk _ rfl
  have hval : ∀ (j : Nat) t v, Try.f5.params[j]? = some t → args[j]? = some v → Value.okWide Try.prog W .any base t v := hval0
  have hW' := hW
  obtain ⟨p, q, hA0, hV, rfl, hfz, hnd⟩ := hW
  have hA : DataW.TrodAll enc Try.prog W 0 (fun _ => true) true Try.f5.params.toList args.toList ds p := hA0
  rw [Try.params5] at hA hval
  obtain ⟨v0, vs0, d0, ds0, p0, q0, hargs, rfl, rfl, h0, r0⟩ := trodAll_cons hA
  obtain ⟨v1, vs1, d1, ds1, p1, q1, rfl, rfl, rfl, h1, r1⟩ := trodAll_cons r0
  obtain ⟨rfl, rfl, rfl⟩ := trodAll_nil r1
  obtain rfl : args = #[v0, v1] := by cases args; simp_all
  obtain ⟨rfl, rfl⟩ := trodVars_none hV
  have k0 := h0
  have k1 := h1
  have lt0 : ∀ x ∈ p0, x.block < W.heap.size := by obtain ⟨m, hm⟩ := k0; exact DataW.trod_lt m _ _ _ hm
  have lt1 : ∀ x ∈ p1, x.block < W.heap.size := by obtain ⟨m, hm⟩ := k1; exact DataW.trod_lt m _ _ _ hm
  obtain ⟨m0, hm0⟩ := h0
  obtain ⟨m1, hm1⟩ := h1
  obtain ⟨x1, e1, hx1, hwf1⟩ := DataW.trod_int Try.underlying3 hm1
  obtain ⟨x1', rfl⟩ := okWide_int Try.underlying3 (hval 1 3 v1 rfl rfl)
  obtain rfl : x1 = x1' := by simpa [Value.cells, eq_comm] using e1
  have hsm := of_decide_eq_true (show decide (Rows.uptoBulkAll _ ≤ 1048576) = true from hbk)
  simp only [Rows.uptoBulkAll, Rows.uptoBulk, List.cons_append, List.nil_append, List.append_nil] at hsm
  clear hA0 hval0
  obtain ⟨A, n, c, A2, n2, c2, xs, e0, hn, hcap, hC, hok⟩ := P.prog_is enc W hm0 (by show Rows.uptoBulk d0 ≤ 1048576; omega)
  obtain ⟨av, rfl, hav⟩ := okWide_struct Try.underlying32 (hval 0 32 v0 rfl rfl)
  obtain rfl : av = #[.slice A n c, .slice A2 n2 c2] := by simpa [Value.cells, ← Array.toList_inj] using e0
  have hx1 : -9223372036854775808 ≤ x1 ∧ x1 ≤ 9223372036854775807 := by
    have h := hwf1
    simp [Lit.wf] at h
    rw [show IntKind.i64.min = -9223372036854775808 from rfl] at h
    exact h
  refine (P.Follows_at hC hn hcap hok hx1.1 hx1.2).mono fun e W' ⟨he, bel⟩ => ?_
  subst he
  exact ⟨_, rfl, _, _, _, [], _, [], hW', trodAll_mk1 (shut_bool Try.underlying4 _), (trodAll_cons_mk (Below.trod laidOut (by kernel_rfl) (of_decide_eq_true (by kernel_rfl)) k0 bel lt0) (trodAll_cons_mk (Below.trod laidOut (by kernel_rfl) (of_decide_eq_true (by kernel_rfl)) k1 bel lt1) trodAll_mk0)), rfl, bel.frame _, fun h => by cases h⟩
theorem over : Rows.LayoutFollowsUptoSaid :=
  OpenClaim.holds_of_cond 5 Try.f5 rfl rfl rfl rfl rfl rfl rfl ⟨rfl, rfl, rfl, rfl, rfl⟩ rfl rfl rfl rfl rfl (by kernel_rfl) Try.func5 (by kernel_rfl)
    (of_decide_eq_true (by kernel_rfl)) (by unfold Func.isWrapper; first | (rw [if_pos (by decide +kernel)]; kernel_rfl) | (rw [if_neg (by decide +kernel)]; exact ⟨rfl, rfl⟩))
    (fun os started H enc _ F0 => by rw [OpenClaim.pre_eq_preRow]; exact lifted os started H enc F0)
end Go.Proofs.Ytjphhnhloeanlaa.layoutFollows
namespace Go.Proofs.Ytjphhnhloeanlaa
/-- The row, under a short name, for the claim. -/
theorem layoutFollows_holds : Rows.LayoutFollowsUptoSaid := layoutFollows.over
#print axioms layoutFollows_holds
end Go.Proofs.Ytjphhnhloeanlaa
