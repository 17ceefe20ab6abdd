/- PackReads, as the card says it: for every script over any bytes the call returns true and the arguments read as before: what is taken up, what is left, the error that stays. Condition: the package's table holds what its text lays (the card ties it). -/
import Derived.Test.YtgnjlgfnpfjjnaaDoorRows
import Derived.Test.YtgnjlgfnpfjjnaaDoorTie
import Derived.Test.YtgnjlgfnpfjjnaaDoorCards
import Derived.Test.YtgnjlgfnpfjjnaaDoorRe
import Derived.Test.YtgnjlgfnpfjjnaaDoorOp
import Derived.Test.YtgnjlgfnpfjjnaaDoorWSized
import Derived.Test.YtgnjlgfnpfjjnaaDoorLaid
import Derived.ChangeOld
import Derived.SizedLaws
import Derived.Deep.DeepHandedRow
namespace Go.Proofs.YtgnjlgfnpfjjnaaDoor.packReads
open Go Go.ChangeShapes Go.WideShapes Go.ChangeAt Go.RowKit
open Go.Proofs.YtgnjlgfnpfjjnaaDoorW.PrintWords
set_option linter.unusedVariables false
abbrev spec := Rows.packReadsSpec
/-- a slice that came in is no longer than its weight allows -/
theorem sized_any {H : Type} {enc : TypeId × Value → H} {P : Program} {W : World} {base : Nat} {spare : Nat → Bool} {held : Bool} {t e : TypeId} {a : Option Addr} {len cap : Nat} {d : DataW H} {ps : List MemPlace} {ts : List TypeId} {ds : List (DataW H)} {j : Nat}
    (hsz : (DataW.weightsEach P ts ds).all (· ≤ reachBytes) = true) (ht : ts[j]? = some t) (hd : ds[j]? = some d) (hu : P.underlying t = some (.slice e)) {B : Nat} (hB : P.bytesOf e = B)
    (h : DataW.Trod enc P W base spare held t (.slice a len cap) d ps) : len * B ≤ 140737488351232 := by
  obtain ⟨fuel, hf⟩ := h
  rcases Deep.open_slice hu hf with ⟨hcs, _⟩ | ⟨x, l, c, m, n, D, Pl, hcs, _, _, _, _, hx, _⟩
  · simp [Value.cells] at hcs
    obtain ⟨rfl, rfl, rfl⟩ := hcs
    simp
  · simp [Value.cells] at hcs
    obtain ⟨rfl, rfl, rfl⟩ := hcs
    obtain ⟨hx, _⟩ := Prod.mk.inj hx
    subst hx
    have z := sized_slice hsz ht hd hu
    rw [hB, List.length_map, List.length_range] at z
    exact Nat.le_trans (Nat.mul_le_mul_right _ (Nat.le_add_right _ _)) z
theorem bytes {H : Type} (enc : TypeId × Value → H) (W : World) : Op.Is enc Tryd.prog W 23 (Kd.slice 5 (Kd.int .u8)) (fun l => ∀ x ∈ l, (Lit.int .u8 x).wf = true) (fun l => (l.map fun _ => 1).sum + 1) :=
  Op.Is.slice Tryd.underlying23 (by kernel_rfl) (Op.Is.int Tryd.underlying5)
theorem takes {H : Type} (enc : TypeId × Value → H) (W : World) : Op.Is enc Tryd.prog W 45 (Kd.slice 53 Pk.kTk) (fun _ => True) (fun l => (l.map fun x => 1 + 1).sum + 1) :=
  (Op.Is.slice Tryd.underlying45 (by kernel_rfl) (Op.Is.struct2 Tryd.underlying53 (by kernel_rfl) ⟨rfl, by kernel_rfl⟩ ⟨rfl, by kernel_rfl⟩ (Op.Is.int Tryd.underlying3) (Op.Is.int Tryd.underlying3))).mono (fun _ _ => trivial) (fun _ => Nat.le_refl _)
theorem ones : ∀ x : List Int, (x.map fun _ => 1).sum = x.length
  | [] => rfl
  | a :: x => by rw [List.map_cons, List.sum_cons, ones x, List.length_cons]; omega
theorem take_sum : ∀ l : List Pk.TkT, l.length ≤ (l.map fun x => 1 + 1).sum
  | [] => by simp
  | p :: l => by
    have h := take_sum l
    simp only [List.map_cons, List.sum_cons, List.length_cons]
    omega
set_option maxRecDepth 100000 in
theorem lifted (os : Os) (started : os.Started) (H : Type) (enc : TypeId × Value → H) :
    ReturnsInHanded {} Tryd.checked os 6 .any (fun w args => (Rows.packReadsSpec.pre enc Tryd.prog Tryd.f6 [] false w args ∧ laidMetH Tryd.prog Laid.laid w) ∧ sizedMet enc Tryd.prog Tryd.f6 (OpenSpec.ofChange Rows.packReadsSpec) false w args)
      (Rows.packReadsSpec.post enc Tryd.prog Tryd.f6 false true false false) := by
  refine returnsInHanded_of_change_and (C := Tryd.checked) (X := fun w _ => laidMetH Tryd.prog Laid.laid w) (fun _ _ _ hh h => h.of_heap hh) Laid.own started (by kernel_rfl) Tryd.func6
    (ChangeSpec.witness_shaped (enc := enc) (C := Tryd.checked) (os := os) (X := fun w _ => laidMetH Tryd.prog Laid.laid w) false (World.doorLaid Tryd.prog 400 os) #[.slice none 0 0, .slice none 0 0] 8 rfl (World.shaped_of_RefB (by kernel_rfl) (by kernel_rfl)) (by kernel_rfl) (by kernel_rfl) (by kernel_rfl) (Laid.met os _)) ?_
  intro W base args ds gs before hval0 hW _ hsz0 hL _
  have hT := Laid.tab hL
  have hsz : (DataW.weightsEach Tryd.prog (Tryd.f6.params.toList ++ Rows.packReadsSpec.plain.varTypes Tryd.prog) (ds ++ gs)).all (· ≤ reachBytes) = true := hsz0
  have hval : ∀ (j : Nat) t v, Tryd.f6.params[j]? = some t → args[j]? = some v → Value.okWide Tryd.prog W .any base t v := hval0
  have hW' := hW
  obtain ⟨p, q, hA0, hV, rfl, hfz, hnd⟩ := hW
  have hA : DataW.TrodAll enc Tryd.prog W 0 (fun _ => true) true Tryd.f6.params.toList args.toList ds p := hA0
  rw [Tryd.params6] at hA hval hsz
  obtain ⟨v0, vs0, d0, ds0, p0, q0, hargs, rfl, rfl, h0, r0⟩ := trodAll_cons hA
  obtain ⟨v1, vs1, d1, ds1, p1, q1, rfl, rfl, rfl, h1, r1⟩ := trodAll_cons r0
  obtain ⟨rfl, rfl, rfl⟩ := trodAll_nil r1
  obtain rfl : args = #[v0, v1] := by cases args; simp_all
  obtain ⟨rfl, rfl⟩ := trodVars_none hV
  obtain ⟨a0, len0, cap0, rfl⟩ := okWide_slice Tryd.underlying23 (hval 0 23 v0 rfl rfl)
  obtain ⟨a1, len1, cap1, rfl⟩ := okWide_slice Tryd.underlying45 (hval 1 45 v1 rfl rfl)
  have k0 := h0
  have k1 := h1
  have lt0 : ∀ x ∈ p0, x.block < W.heap.size := by obtain ⟨m, hm⟩ := k0; exact DataW.trod_lt m _ _ _ hm
  have lt1 : ∀ x ∈ p1, x.block < W.heap.size := by obtain ⟨m, hm⟩ := k1; exact DataW.trod_lt m _ _ _ hm
  have y0 := sized_any hsz (j := 0) (t := 23) rfl rfl Tryd.underlying23 (B := 1) (by kernel_rfl) h0
  obtain ⟨xs0, hl0, hcap0, hC0, hw0, hb0⟩ := Op.slice_arg (bytes enc W) h0
  subst hl0
  have y1 := sized_any hsz (j := 1) (t := 45) rfl rfl Tryd.underlying45 (B := 16) (by kernel_rfl) h1
  obtain ⟨xs1, hl1, hcap1, hC1, hw1, hb1⟩ := Op.slice_arg (takes enc W) h1
  subst hl1
  clear hA0 hval0 hsz0
  have hB : Pk.allB xs0 := fun y hy => Pk.wfB (hw0 y hy)
  refine (Pk.Reads (c := cap0) (c2 := cap1) hT hC0 hB (by omega) hC1 (by omega)).mono fun e W' ⟨he, bel⟩ => ?_
  subst he
  exact ⟨_, rfl, _, _, _, [], _, [], hW', trodAll_mk1 (shut_bool Tryd.underlying4 _), (trodAll_cons_mk (Below.trod Laid.laidOut (by kernel_rfl) (of_decide_eq_true (by kernel_rfl)) k0 bel lt0) (trodAll_cons_mk (Below.trod Laid.laidOut (by kernel_rfl) (of_decide_eq_true (by kernel_rfl)) k1 bel lt1) trodAll_mk0)), rfl, bel.frame _, fun h => by cases h⟩
theorem over : Rows.PackReadsSaid :=
  OpenClaim.holds_of_wide 6 Tryd.f6 rfl rfl rfl rfl rfl rfl rfl ⟨rfl, rfl, rfl, rfl, rfl⟩ rfl rfl rfl rfl rfl (by kernel_rfl) Tryd.func6 (by kernel_rfl)
    (of_decide_eq_true (by kernel_rfl)) (by unfold Func.isWrapper; first | (rw [if_pos (by decide +kernel)]; kernel_rfl) | (rw [if_neg (by decide +kernel)]; exact ⟨rfl, rfl⟩))
    (fun os started H enc _ => lifted os started H enc)
theorem card : Rows.PackReadsCardSaid :=
  Claim7.holds_tied_plain_at .later [] [.data] true Rows.packReadsCard.stood.harness false
    over (fun _ h => by cases h) (by kernel_rfl) (fun _ h => by cases h) packReads_row_tie rfl ⟨rfl, rfl⟩ (by kernel_rfl) rfl
    (fun f fn hf hfn => by
      obtain rfl : f = 6 := Option.some.inj ((show Tryd.prog.funcNamed "wisp/wisplaw03.PackReads" = some 6 by kernel_rfl).symm.trans hf) |>.symm
      obtain rfl : fn = Tryd.f6 := (Option.some.inj (Tryd.func6.symm.trans hfn)).symm
      exact ⟨by kernel_rfl, fun j t ht => by
        rw [Tryd.params6] at ht
        have hm : t ∈ [23, 45] := by simpa using Array.mem_of_getElem? ht
        have hall : ([23, 45].all fun u => !Tryd.prog.wantsStandIn u) = true := by kernel_rfl
        exact (show Tryd.prog.wantsStandIn t = false by simpa using List.all_eq_true.1 hall t hm)⟩)
    (by kernel_rfl)
end Go.Proofs.YtgnjlgfnpfjjnaaDoor.packReads
namespace Go.Proofs.YtgnjlgfnpfjjnaaDoor
/-- The card, under a short name, for the claim. -/
theorem packReads_holds : Rows.PackReadsCardSaid := packReads.card
#print axioms packReads_holds
end Go.Proofs.YtgnjlgfnpfjjnaaDoor
