/- A cartridge that came in as an argument. -/
import Derived.Test.YtembdahclmffjaaDoorCr
import Derived.Test.YtembdahclmffjaaDoorOp
import Derived.Test.YtembdahclmffjaaDoorWSized
import Derived.SizedLaws
import Derived.Lib.SmallJoins
namespace Go.Proofs.YtembdahclmffjaaDoor.Pk
open Go.RowKit Go.Proofs.YtembdahclmffjaaDoorW.PrintWords Go.Proofs.YtembdahclmffjaaDoorW.PrintLast Go.Proofs.YtembdahclmffjaaDoorW.PrintMore Go.Proofs.YtembdahclmffjaaDoor.Mem
open Go.ChangeShapes Go.WideShapes Go.ChangeAt
set_option linter.unusedVariables false
set_option linter.unusedSimpArgs false
section
variable {H : Type} (enc : TypeId × Value → H) (W : World)
theorem is_bytes : Op.Is enc Tryd.prog W 22 (Kd.slice 5 (Kd.int .u8)) (fun l => ∀ x ∈ l, (Lit.int .u8 x).wf = true) (fun l => (l.map fun _ => 1).sum + 1) :=
  Op.Is.slice Tryd.underlying22 (by kernel_rfl) (Op.Is.int Tryd.underlying5)
theorem is_efs : Op.Is enc Tryd.prog W 25 (Kd.slice 80 kE) (fun l => ∀ x ∈ l, (Lit.int .u16 x.1).wf = true ∧ (Lit.int .i64 x.2.1).wf = true ∧ (Lit.int .i64 x.2.2).wf = true) (fun l => (l.map fun x => 1 + 1 + 1).sum + 1) :=
  Op.Is.slice Tryd.underlying25 (by kernel_rfl) (Op.Is.struct3 Tryd.underlying80 (by kernel_rfl) ⟨rfl, by kernel_rfl⟩ ⟨rfl, by kernel_rfl⟩ ⟨rfl, by kernel_rfl⟩ (Op.Is.int (by kernel_rfl)) (Op.Is.int (by kernel_rfl)) (Op.Is.int (by kernel_rfl)))
theorem is_bks : Op.Is enc Tryd.prog W 26 (Kd.slice 82 kB) (fun l => ∀ x ∈ l, (Lit.int .i64 x.1).wf = true ∧ ∀ z ∈ x.2, (Lit.int .u8 z).wf = true) (fun l => (l.map fun x => 1 + ((x.2.map fun _ => 1).sum + 1)).sum + 1) :=
  Op.Is.slice Tryd.underlying26 (by kernel_rfl) (Op.Is.struct2 Tryd.underlying82 (by kernel_rfl) ⟨rfl, by kernel_rfl⟩ ⟨rfl, by kernel_rfl⟩ (Op.Is.int (by kernel_rfl)) (is_bytes enc W))
/-- a slice that came in is no longer than its weight allows -/
theorem sized_any {H : Type} {enc : TypeId × Value → H} {P : Program} {W : World} {base : Nat} {spare : Nat → Bool} {held : Bool} {t e : TypeId} {a : Option Addr} {len cap : Nat} {d : DataW H} {ps : List MemPlace} {ts : List TypeId} {ds : List (DataW H)} {j : Nat}
    (hsz : (DataW.weightsEach P ts ds).all (· ≤ reachBytes) = true) (ht : ts[j]? = some t) (hd : ds[j]? = some d) (hu : P.underlying t = some (.slice e)) {B : Nat} (hB : P.bytesOf e = B)
    (h : DataW.Trod enc P W base spare held t (.slice a len cap) d ps) : len * B ≤ 140737488351232 := by
  obtain ⟨fuel, hf⟩ := h
  rcases Deep.open_slice hu hf with ⟨hcs, _⟩ | ⟨x, l, c, m, n, D, Pl, hcs, _, _, _, _, hx, _⟩
  · simp [Value.cells] at hcs
    obtain ⟨rfl, rfl, rfl⟩ := hcs
    simp
  · simp [Value.cells] at hcs
    obtain ⟨rfl, rfl, rfl⟩ := hcs
    obtain ⟨hx, _⟩ := Prod.mk.inj hx
    subst hx
    have z := sized_slice hsz ht hd hu
    rw [hB, List.length_map, List.length_range] at z
    exact Nat.le_trans (Nat.mul_le_mul_right _ (Nat.le_add_right _ _)) z
theorem slice_k {e : TypeId} {α : Type} {d : Kd α} {xs : List α} {v : Value} (h : (Kd.slice e d).K W xs [v]) : ∃ A c, v = .slice A xs.length c ∧ xs.length ≤ c ∧ d.C W A xs.length xs := by
  obtain ⟨A, c, e1, h1, h2⟩ := h
  exact ⟨A, c, by simpa using e1, h1, h2⟩
theorem cart_arg {enc : TypeId × Value → H} {W : World} {v : Value} {d : DataW H} {p : List MemPlace} {base : Nat} (hv : Value.okWide Tryd.prog W .any base 28 v) (h : DataW.Trod enc Tryd.prog W 0 (fun _ => true) true 28 v d p) (hsz : (d.weights Tryd.prog 28).all (· ≤ reachBytes) = true) :
    ∃ A0 n0 c0 y A2 n2 c2 A3 n3 c3 c, v = .agg #[.slice A0 n0 c0, .int .u16 y, .slice A2 n2 c2, .slice A3 n3 c3] ∧ CtV W (.agg #[.slice A0 n0 c0, .int .u16 y, .slice A2 n2 c2, .slice A3 n3 c3]) c ∧ WfC c ∧ c.efs.length ≤ 140737488351232 ∧ c.bks.length ≤ 140737488351232 := by
  obtain ⟨cs, rfl, hs⟩ := okWide_struct Tryd.underlying28 hv
  rw [show Tryd.prog.cellsOf 28 = 4 by kernel_rfl] at hs
  obtain ⟨v0, v1, v2, v3, rfl⟩ := Joins.array4 hs
  obtain ⟨fuel, hf⟩ := h
  obtain ⟨y0, y1, y2, y3, n, hx, _, k0, k1, k2, k3⟩ := Joins.trod_struct4 Tryd.underlying28 hf
  obtain ⟨rfl, _⟩ := Prod.mk.inj hx
  have c22 : Tryd.prog.cellsOf 22 = 1 := by kernel_rfl
  have c24 : Tryd.prog.cellsOf 24 = 1 := by kernel_rfl
  have c25 : Tryd.prog.cellsOf 25 = 1 := by kernel_rfl
  have c26 : Tryd.prog.cellsOf 26 = 1 := by kernel_rfl
  simp only [Value.cells, c22, c24, c25, c26] at k0 k1 k2 k3
  replace k0 : DataW.trod enc Tryd.prog W 0 (fun _ => true) true n 22 [v0] = some y0 := by simpa using k0
  replace k1 : DataW.trod enc Tryd.prog W 0 (fun _ => true) true n 24 [v1] = some y1 := by simpa using k1
  replace k2 : DataW.trod enc Tryd.prog W 0 (fun _ => true) true n 25 [v2] = some y2 := by simpa using k2
  replace k3 : DataW.trod enc Tryd.prog W 0 (fun _ => true) true n 26 [v3] = some y3 := by simpa using k3
  obtain ⟨code, hk0, hw0, _⟩ := is_bytes enc W _ _ _ k0
  obtain ⟨ent, hk1, hw1, _⟩ := Op.Is.int (enc := enc) (W := W) (k := .u16) (P := Tryd.prog) (t := 24) (by kernel_rfl) _ _ _ k1
  obtain ⟨efs, hk2, hw2, _⟩ := is_efs enc W _ _ _ k2
  obtain ⟨bks, hk3, hw3, _⟩ := is_bks enc W _ _ _ k3
  obtain ⟨A0, c0, rfl, l0, hC0⟩ := slice_k W hk0
  obtain ⟨A2, c2, rfl, l2, hC2⟩ := slice_k W hk2
  obtain ⟨A3, c3, rfl, l3, hC3⟩ := slice_k W hk3
  obtain rfl : v1 = .int .u16 ent := (List.cons.inj (show [v1] = [Value.int .u16 ent] from hk1)).1
  have hsz' : (DataW.weightsEach Tryd.prog [22, 24, 25, 26] [y0.1, y1.1, y2.1, y3.1]).all (· ≤ reachBytes) = true := by
    simp only [DataW.weights, Tryd.underlying28] at hsz
    exact hsz
  have b2 := sized_any hsz' (j := 2) (t := 25) rfl rfl Tryd.underlying25 (B := 24) (by kernel_rfl) ⟨n, k2⟩
  have b3 := sized_any hsz' (j := 3) (t := 26) rfl rfl Tryd.underlying26 (B := 32) (by kernel_rfl) ⟨n, k3⟩
  have hu : 0 ≤ ent ∧ ent < 65536 := by
    simp [Lit.wf] at hw1
    rw [show IntKind.u16.min = 0 from rfl, show IntKind.u16.max = 65535 from rfl] at hw1
    omega
  refine ⟨A0, _, c0, ent, A2, _, c2, A3, _, c3, ⟨code, ent, efs, bks⟩, rfl, ⟨_, _, _, _, _, _, rfl, ⟨hC0, hC2, hC3, l0, l2, l3⟩⟩, ⟨fun z hz => wfB (hw0 z hz), hu.1, hu.2, fun x hx => ?_, fun b hb z hz => wfB ((hw3 b hb).2 z hz)⟩, by show efs.length ≤ _; omega, by show bks.length ≤ _; omega⟩
  have h16 := (hw2 x hx).1
  simp [Lit.wf] at h16
  rw [show IntKind.u16.min = 0 from rfl, show IntKind.u16.max = 65535 from rfl] at h16
  omega
end
theorem dec_lens {r : List Int} {c : CartP} (h : decB r = (c, 0)) : 12 ≤ r.length ∧ r.length ≤ 524288 := by
  unfold decB at h
  split at h
  · simp at h
  · split at h
    · simp at h
    · rename_i h1 h2
      have h2 := Classical.not_not.1 h2
      exact ⟨h2.1, h2.2.1⟩
end Go.Proofs.YtembdahclmffjaaDoor.Pk
