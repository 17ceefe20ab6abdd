/- ShotApplies, as the row says it: for all bytes and all lists of changes the call returns true and the arguments read as before: Apply answers as the document says. Condition: none beyond the row's own (sizes that a machine can reach). -/
import Derived.Test.YtpjdgndbcjinjaaRows
import Derived.Test.YtpjdgndbcjinjaaYw
import Derived.Test.YtpjdgndbcjinjaaOp
import Derived.Test.YtpjdgndbcjinjaaWSized
import Derived.WalkKit
import Derived.ProofKit
import Derived.OpenShut
import Derived.ShutString
import Derived.ChangeOld
import Derived.Below
import Derived.SizedLaws
namespace Go.Proofs.Ytpjdgndbcjinjaa.shotApplies
open Go Go.ChangeShapes Go.WideShapes Go.ChangeAt Go.RowKit
open Go.ChangeMaps (open_string shut_string)
open Go.Proofs.YtpjdgndbcjinjaaW.PrintWords
set_option linter.unusedVariables false
theorem own : ownKnob Try.prog.godebug = none := by kernel_rfl
theorem laidOut : laidOutB Try.prog = true := by kernel_rfl
set_option linter.unusedSimpArgs false
theorem bytes {H : Type} (enc : TypeId × Value → H) (W : World) : Op.Is enc Try.prog W 22 (Kd.slice 5 (Kd.int .u8)) (fun l => ∀ x ∈ l, (Lit.int .u8 x).wf = true) (fun l => (l.map fun _ => 1).sum + 1) :=
  Op.Is.slice Try.underlying22 (by kernel_rfl) (Op.Is.int Try.underlying5)
/-- a slice that came in is no longer than its weight allows -/
theorem sized_any {H : Type} {enc : TypeId × Value → H} {P : Program} {W : World} {base : Nat} {spare : Nat → Bool} {held : Bool} {t e : TypeId} {a : Option Addr} {len cap : Nat} {d : DataW H} {ps : List MemPlace} {ts : List TypeId} {ds : List (DataW H)} {j : Nat}
    (hsz : (DataW.weightsEach P ts ds).all (· ≤ reachBytes) = true) (ht : ts[j]? = some t) (hd : ds[j]? = some d) (hu : P.underlying t = some (.slice e)) {B : Nat} (hB : P.bytesOf e = B)
    (h : DataW.Trod enc P W base spare held t (.slice a len cap) d ps) : len * B ≤ 140737488351232 := by
  obtain ⟨fuel, hf⟩ := h
  rcases Deep.open_slice hu hf with ⟨hcs, _⟩ | ⟨x, l, c, m, n, D, Pl, hcs, _, _, _, _, hx, _⟩
  · simp [Value.cells] at hcs
    obtain ⟨rfl, rfl, rfl⟩ := hcs
    simp
  · simp [Value.cells] at hcs
    obtain ⟨rfl, rfl, rfl⟩ := hcs
    obtain ⟨hx, _⟩ := Prod.mk.inj hx
    subst hx
    have z := sized_slice hsz ht hd hu
    rw [hB, List.length_map, List.length_range] at z
    exact Nat.le_trans (Nat.mul_le_mul_right _ (Nat.le_add_right _ _)) z
/-- one change -/
theorem change {H : Type} (enc : TypeId × Value → H) (W : World) : Op.Is enc Try.prog W 43 P.k43 (fun _ => True) (fun _ => 0) := by
  intro fuel cs x hx
  obtain ⟨xs, n, _, rfl, hl, hlen, hf⟩ := DataW.trod_struct Try.underlying43 hx
  have hc4 : (Try.prog).cellsOf 43 = 4 := by kernel_rfl
  have ci : (Try.prog).cellsOf 3 = 1 := by kernel_rfl
  have cb : (Try.prog).cellsOf 5 = 1 := by kernel_rfl
  rw [hc4] at hl
  match cs, hl with
  | [c0, c1, c2, c3], _ =>
    match xs, hlen with
    | [y0, y1, y2, y3], _ =>
      have h0 := hf 0 _ rfl
      have h1 := hf 1 _ rfl
      have h2 := hf 2 _ rfl
      have h3 := hf 3 _ rfl
      simp only [ci, cb, List.drop, List.take, List.getElem?_cons_zero, List.getElem?_cons_succ] at h0 h1 h2 h3
      obtain ⟨a0, e0, _, _⟩ := DataW.trod_int Try.underlying3 h0
      obtain ⟨a1, e1, _, _⟩ := DataW.trod_int Try.underlying3 h1
      obtain ⟨a2, e2, _, _⟩ := DataW.trod_int Try.underlying5 h2
      obtain ⟨a3, e3, _, _⟩ := DataW.trod_int Try.underlying5 h3
      cases e0; cases e1; cases e2; cases e3
      exact ⟨⟨a0, a1, a2, a3⟩, P.k43_mk _ ⟨a0, a1, a2, a3⟩, trivial, Nat.zero_le _⟩
instance : Inhabited P.S43 := ⟨P.z43⟩
theorem changes {H : Type} (enc : TypeId × Value → H) (W : World) : Op.Is enc Try.prog W 29 (Kd.slice 43 P.k43) (fun l => ∀ x ∈ l, True) (fun l => (l.map fun _ => 0).sum + 1) :=
  Op.Is.slice Try.underlying29 (by kernel_rfl) (change enc W)
theorem from43 (l : List P.S43) : ∃ m : List P.S42, m.map P.to43 = l := ⟨l.map fun x => ⟨x.f0, x.f1, x.f2, x.f3⟩, by rw [List.map_map]; exact (List.map_congr_left (fun x _ => rfl)).trans (List.map_id l)⟩
set_option maxRecDepth 100000 in
theorem lifted (os : Os) (started : os.Started) (H : Type) (enc : TypeId × Value → H) :
    ReturnsInHanded {} Try.checked os 4 .any (Rows.shotAppliesSpec.pre6 enc Try.prog Try.f4 Rows.shotAppliesRow.domain false) (Rows.shotAppliesSpec.post enc Try.prog Try.f4 false true false false) := by
  refine returnsInHanded_of_change_sized (C := Try.checked) own started (by kernel_rfl) Try.func4
    (ChangeSpec.witness6 (enc := enc) (C := Try.checked) false ⟨#[], #[.slice none 0 0, .slice none 0 0], []⟩ 8 (by kernel_rfl) (by kernel_rfl) (by kernel_rfl) (by kernel_rfl)) ?_
  intro W base args ds gs before hval0 hW hcnd hsz0 _
  have hsz : (DataW.weightsEach Try.prog (Try.f4.params.toList ++ Rows.shotAppliesSpec.plain.varTypes Try.prog) (ds ++ gs)).all (· ≤ reachBytes) = true := hsz0
  have hval : ∀ (j : Nat) t v, Try.f4.params[j]? = some t → args[j]? = some v → Value.okWide Try.prog W .any base t v := hval0
  have hW' := hW
  obtain ⟨p, q, hA0, hV, rfl, hfz, hnd⟩ := hW
  have hA : DataW.TrodAll enc Try.prog W 0 (fun _ => true) true Try.f4.params.toList args.toList ds p := hA0
  rw [Try.params4] at hA hval hsz
  obtain ⟨v0, vs0, d0, ds0, p0, q0, hargs, rfl, rfl, h0, r0⟩ := trodAll_cons hA
  obtain ⟨v1, vs1, d1, ds1, p1, q1, rfl, rfl, rfl, h1, r1⟩ := trodAll_cons r0
  obtain ⟨rfl, rfl, rfl⟩ := trodAll_nil r1
  obtain rfl : args = #[v0, v1] := by cases args; simp_all
  obtain ⟨rfl, rfl⟩ := trodVars_none hV
  obtain ⟨a0, len0, cap0, rfl⟩ := okWide_slice Try.underlying22 (hval 0 22 v0 rfl rfl)
  have k0 := h0
  have lt0 : ∀ x ∈ p0, x.block < W.heap.size := by obtain ⟨m, hm⟩ := k0; exact DataW.trod_lt m _ _ _ hm
  have y0 : len0 * 1 ≤ 140737488351232 := Go.Proofs.YtpjdgndbcjinjaaW.PrintWords.sized_ints hsz (j := 0) (t := 22) rfl rfl Try.underlying22 Try.underlying5 (by kernel_rfl) (by kernel_rfl) h0
  obtain ⟨xs0, hl0, hcap0, hC0, hw0, hb0⟩ := Op.slice_arg (bytes enc W) h0
  subst hl0
  obtain ⟨a1, len1, cap1, rfl⟩ := okWide_slice Try.underlying29 (hval 1 29 v1 rfl rfl)
  have k1 := h1
  have lt1 : ∀ x ∈ p1, x.block < W.heap.size := by obtain ⟨m, hm⟩ := k1; exact DataW.trod_lt m _ _ _ hm
  have y1 := sized_any hsz (j := 1) (t := 29) rfl rfl Try.underlying29 (B := 24) (by kernel_rfl) h1
  obtain ⟨xs1, hl1, hcap1, hC1, hw1, hb1⟩ := Op.slice_arg (changes enc W) h1
  subst hl1
  clear hA0 hval0 hsz0
  obtain ⟨l1, rfl⟩ := from43 xs1
  rw [List.length_map] at hC1 hcap1 y1 k1 hW' ⊢
  refine (Sh.Applies (c := cap0) (c1 := cap1) hC0 hcap0 (by omega) hC1 hcap1 (by omega)).mono fun e W' ⟨he, bel⟩ => ?_
  subst he
  exact ⟨_, rfl, _, _, _, [], _, [], hW', trodAll_mk1 (shut_bool Try.underlying4 _), (trodAll_cons_mk (Below.trod laidOut (by kernel_rfl) (of_decide_eq_true (by kernel_rfl)) k0 bel lt0) (trodAll_cons_mk (Below.trod laidOut (by kernel_rfl) (of_decide_eq_true (by kernel_rfl)) k1 bel lt1) trodAll_mk0)), rfl, bel.frame _, fun h => by cases h⟩
theorem over : Rows.shotAppliesRow.holds Try.pinned (OpenSpec.ofChange Rows.shotAppliesSpec) :=
  OpenClaim.holds_of_wide 4 Try.f4 rfl rfl rfl rfl rfl rfl rfl ⟨rfl, rfl, rfl, rfl, rfl⟩ rfl rfl rfl rfl rfl (by kernel_rfl) Try.func4 (by kernel_rfl)
    (of_decide_eq_true (by kernel_rfl)) (by unfold Func.isWrapper; first | (rw [if_pos (by decide +kernel)]; kernel_rfl) | (rw [if_neg (by decide +kernel)]; exact ⟨rfl, rfl⟩))
    (fun os started H enc _ => lifted os started H enc)
theorem proved : Rows.ShotAppliesSaid := over
#print axioms proved
end Go.Proofs.Ytpjdgndbcjinjaa.shotApplies
namespace Go.Proofs.Ytpjdgndbcjinjaa
/-- The row, under a short name, for the claim. -/
theorem shotApplies_holds : Rows.ShotAppliesSaid := shotApplies.proved
end Go.Proofs.Ytpjdgndbcjinjaa
