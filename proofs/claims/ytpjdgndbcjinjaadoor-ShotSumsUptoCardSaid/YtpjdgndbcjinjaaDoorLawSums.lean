/- ShotSums, as the card says it where what is read is of bulk at most 1048576: for every out the call returns true and the argument reads as before: outs that are the same have one sum; a pixel that differs gives another one. Condition: the package's table holds what its text lays (the card ties it). -/
import Derived.Test.YtpjdgndbcjinjaaDoorRows
import Derived.Test.YtpjdgndbcjinjaaDoorTie
import Derived.Test.YtpjdgndbcjinjaaDoorCards
import Derived.Test.YtpjdgndbcjinjaaDoorIa
import Derived.Test.YtpjdgndbcjinjaaDoorOp
import Derived.Test.YtpjdgndbcjinjaaDoorWSized
import Derived.Test.YtpjdgndbcjinjaaDoorLaid
import Derived.ChangeOld
import Derived.SizedLaws
import Derived.Deep.DeepHandedRow
namespace Go.Proofs.YtpjdgndbcjinjaaDoor.shotSums
open Go Go.ChangeShapes Go.WideShapes Go.ChangeAt Go.RowKit
open Go.Proofs.YtpjdgndbcjinjaaDoorW.PrintWords
set_option linter.unusedVariables false
abbrev spec : OpenSpec := Rows.OpenSpec.upto Rows.shotSumsSpec

theorem witness_row (os : Os) {H : Type} (enc : TypeId × Value → H) :
    spec.preRow enc Tryd.prog Tryd.f3 [] false Laid.laid ((World.doorLaid Tryd.prog 400 os).forCall (fun _ _ => 0) ⟨#[], #[(.agg #[.int .i64 0, .int .i64 0, .int .i64 0, .int .i64 0, .int .i64 0, .slice none 0 0, .slice none 0 0]), .int .i64 0, .int .u8 0], []⟩).memory #[(.agg #[.int .i64 0, .int .i64 0, .int .i64 0, .int .i64 0, .int .i64 0, .slice none 0 0, .slice none 0 0]), .int .i64 0, .int .u8 0] := by
  have hw : (DataW.whole enc Tryd.prog ((World.doorLaid Tryd.prog 400 os).forCall (fun _ _ => 0) ⟨#[], #[(.agg #[.int .i64 0, .int .i64 0, .int .i64 0, .int .i64 0, .int .i64 0, .slice none 0 0, .slice none 0 0]), .int .i64 0, .int .u8 0], []⟩).memory Tryd.f3.params.toList spec.vars false #[(Value.agg #[.int .i64 0, .int .i64 0, .int .i64 0, .int .i64 0, .int .i64 0, .slice none 0 0, .slice none 0 0]), Value.int .i64 0, Value.int .u8 0].toList 8).map (fun x => (x.1, x.2.1)) = some ([(.agg [.lit (.int .i64 0), .lit (.int .i64 0), .lit (.int .i64 0), .lit (.int .i64 0), .lit (.int .i64 0), .nil, .nil]), (.lit (.int .i64 0)), (.lit (.int .u8 0))], []) := by kernel_rfl
  obtain ⟨⟨x1, x2, x3⟩, hx, hx1⟩ := Option.map_eq_some_iff.1 hw
  simp only [Prod.mk.injEq] at hx1
  obtain ⟨rfl, rfl⟩ := hx1
  exact OpenSpec.preRow_of_cond 8 hx (by kernel_rfl) (fun k hk => by cases hk; rfl) (by kernel_rfl) (Laid.met os _)
set_option maxRecDepth 100000 in
theorem lifted (os : Os) (started : os.Started) (H : Type) (enc : TypeId × Value → H) (F : Stop.Interp) :
    ReturnsInHanded {} Tryd.checked os 3 .any (spec.preRow enc Tryd.prog Tryd.f3 [] false Laid.laid) ((spec.at F).post enc Tryd.prog Tryd.f3 false true false false) := by
  refine returnsInHanded_of_row (C := Tryd.checked) (s := spec) Laid.own started (by kernel_rfl) Tryd.func3
    (witness_row_at (enc := enc) (C := Tryd.checked) false (World.doorLaid Tryd.prog 400 os) #[(.agg #[.int .i64 0, .int .i64 0, .int .i64 0, .int .i64 0, .int .i64 0, .slice none 0 0, .slice none 0 0]), .int .i64 0, .int .u8 0] rfl (by kernel_rfl) (by kernel_rfl) (by kernel_rfl) (witness_row os enc)) ?_
  intro W base args ds gs before hval0 hW _ hk _ hL _ _
  have hT := Laid.tab hL
  have hbk := hk _ rfl
  have hval : ∀ (j : Nat) t v, Tryd.f3.params[j]? = some t → args[j]? = some v → Value.okWide Tryd.prog W .any base t v := hval0
  have hW' := hW
  obtain ⟨p, q, hA0, hV, rfl, hfz, hnd⟩ := hW
  have hA : DataW.TrodAll enc Tryd.prog W 0 (fun _ => true) true Tryd.f3.params.toList args.toList ds p := hA0
  rw [Tryd.params3] at hA hval
  obtain ⟨v0, vs0, d0, ds0, p0, q0, hargs, rfl, rfl, h0, r0⟩ := trodAll_cons hA
  obtain ⟨v1, vs1, d1, ds1, p1, q1, rfl, rfl, rfl, h1, r1⟩ := trodAll_cons r0
  obtain ⟨v2, vs2, d2, ds2, p2, q2, rfl, rfl, rfl, h2, r2⟩ := trodAll_cons r1
  obtain ⟨rfl, rfl, rfl⟩ := trodAll_nil r2
  obtain rfl : args = #[v0, v1, v2] := by cases args; simp_all
  obtain ⟨rfl, rfl⟩ := trodVars_none hV
  have k0 := h0
  have k1 := h1
  have k2 := h2
  have lt0 : ∀ x ∈ p0, x.block < W.heap.size := by obtain ⟨m, hm⟩ := k0; exact DataW.trod_lt m _ _ _ hm
  have lt1 : ∀ x ∈ p1, x.block < W.heap.size := by obtain ⟨m, hm⟩ := k1; exact DataW.trod_lt m _ _ _ hm
  have lt2 : ∀ x ∈ p2, x.block < W.heap.size := by obtain ⟨m, hm⟩ := k2; exact DataW.trod_lt m _ _ _ hm
  obtain ⟨A5_, c5_, A6_, c6_, o0, rfl, hO0, hb0⟩ := Pk.out_arg (hval 0 27 v0 rfl rfl) h0
  obtain ⟨m1, hm1⟩ := h1
  obtain ⟨x1, e1, hx1, hwf1⟩ := DataW.trod_int Tryd.underlying3 hm1
  obtain ⟨x1', rfl⟩ := okWide_int Tryd.underlying3 (hval 1 3 v1 rfl rfl)
  obtain rfl : x1 = x1' := by simpa [Value.cells, eq_comm] using e1
  obtain ⟨m2, hm2⟩ := h2
  obtain ⟨x2, e2, hx2, hwf2⟩ := DataW.trod_int Tryd.underlying5 hm2
  obtain ⟨x2', rfl⟩ := okWide_int Tryd.underlying5 (hval 2 5 v2 rfl rfl)
  obtain rfl : x2 = x2' := by simpa [Value.cells, eq_comm] using e2
  have hsm : Rows.uptoBulkAll [d0, d1, d2] ≤ 1048576 := of_decide_eq_true hbk
  simp only [Rows.uptoBulkAll] at hsm
  clear hA0 hval0
  have hx2_ := Pk.wfB hwf2
  refine (Pk.SumsAll hT hO0.1 hO0.2 (by omega) (by omega) hx2_).mono fun e W' ⟨he, bel⟩ => ?_
  subst he
  exact ⟨_, rfl, _, _, _, [], _, [], hW', trodAll_mk1 (shut_bool Tryd.underlying4 _), (trodAll_cons_mk (Below.trod Laid.laidOut (by kernel_rfl) (of_decide_eq_true (by kernel_rfl)) k0 bel lt0) (trodAll_cons_mk (Below.trod Laid.laidOut (by kernel_rfl) (of_decide_eq_true (by kernel_rfl)) k1 bel lt1) (trodAll_cons_mk (Below.trod Laid.laidOut (by kernel_rfl) (of_decide_eq_true (by kernel_rfl)) k2 bel lt2) trodAll_mk0))), rfl, bel.frame _, fun h => by cases h⟩
theorem over : Rows.ShotSumsUptoSaid :=
  OpenClaim.holds_of_cond 3 Tryd.f3 rfl rfl rfl rfl rfl rfl rfl ⟨rfl, rfl, rfl, rfl, rfl⟩ rfl rfl rfl rfl rfl (by kernel_rfl) Tryd.func3 (by kernel_rfl)
    (of_decide_eq_true (by kernel_rfl)) (by unfold Func.isWrapper; first | (rw [if_pos (by decide +kernel)]; kernel_rfl) | (rw [if_neg (by decide +kernel)]; exact ⟨rfl, rfl⟩))
    (fun os started H enc _ F0 => by rw [OpenClaim.pre_eq_preRow]; exact lifted os started H enc F0)
theorem card : Rows.ShotSumsUptoCardSaid :=
  Claim7.holds_tied_plain_at .later [] [.data] true Rows.shotSumsUptoCard.stood.harness false
    over (fun _ h => by cases h) (by kernel_rfl) (fun _ h => by cases h) shotSumsUpto_row_tie rfl ⟨rfl, rfl⟩ (by kernel_rfl) rfl
    (fun f fn hf hfn => by
      obtain rfl : f = 3 := Option.some.inj ((show Tryd.prog.funcNamed "wisp/wisplaw20.ShotSums" = some 3 by kernel_rfl).symm.trans hf) |>.symm
      obtain rfl : fn = Tryd.f3 := (Option.some.inj (Tryd.func3.symm.trans hfn)).symm
      exact ⟨by kernel_rfl, fun j t ht => by
        rw [Tryd.params3] at ht
        have hm : t ∈ [27, 3, 5] := by simpa using Array.mem_of_getElem? ht
        have hall : ([27, 3, 5].all fun u => !Tryd.prog.wantsStandIn u) = true := by kernel_rfl
        exact (show Tryd.prog.wantsStandIn t = false by simpa using List.all_eq_true.1 hall t hm)⟩)
    (by kernel_rfl)
end Go.Proofs.YtpjdgndbcjinjaaDoor.shotSums
namespace Go.Proofs.YtpjdgndbcjinjaaDoor
/-- The card, under a short name, for the claim. -/
theorem shotSums_holds : Rows.ShotSumsUptoCardSaid := shotSums.card
#print axioms shotSums_holds
end Go.Proofs.YtpjdgndbcjinjaaDoor
