/- A cartridge that came in as an argument, with its lists' sizes. -/
import Derived.Test.YtembdahclmffjaaDoorCg
import Derived.Test.YtembdahclmffjaaDoorOz
namespace Go.Proofs.YtembdahclmffjaaDoor.Pk
open Go.RowKit Go.Proofs.YtembdahclmffjaaDoorW.PrintWords Go.Proofs.YtembdahclmffjaaDoorW.PrintLast Go.Proofs.YtembdahclmffjaaDoorW.PrintMore Go.Proofs.YtembdahclmffjaaDoor.Mem
open Go.ChangeShapes Go.WideShapes Go.ChangeAt
set_option linter.unusedVariables false
set_option linter.unusedSimpArgs false
section
variable {H : Type} (enc : TypeId × Value → H) (W : World)
theorem iz_bytes : Op.Iz enc Tryd.prog W 22 (Kd.slice 5 (Kd.int .u8)) (fun l => l.length * 1 ≤ reachBytes ∧ ∀ x ∈ l, (Lit.int .u8 x).wf = true) :=
  Op.Iz.slice Tryd.underlying22 (by kernel_rfl) (by kernel_rfl) (Op.Is.z (Op.Is.int Tryd.underlying5))
theorem iz_efs : Op.Iz enc Tryd.prog W 25 (Kd.slice 80 kE) (fun l => l.length * 24 ≤ reachBytes ∧ ∀ x ∈ l, (Lit.int .u16 x.1).wf = true ∧ (Lit.int .i64 x.2.1).wf = true ∧ (Lit.int .i64 x.2.2).wf = true) :=
  Op.Iz.slice Tryd.underlying25 (by kernel_rfl) (by kernel_rfl) (Op.Iz.struct3 Tryd.underlying80 (by kernel_rfl) ⟨rfl, by kernel_rfl⟩ ⟨rfl, by kernel_rfl⟩ ⟨rfl, by kernel_rfl⟩ (Op.Is.z (Op.Is.int (by kernel_rfl))) (Op.Is.z (Op.Is.int (by kernel_rfl))) (Op.Is.z (Op.Is.int (by kernel_rfl))))
theorem iz_bks : Op.Iz enc Tryd.prog W 26 (Kd.slice 82 kB) (fun l => l.length * 32 ≤ reachBytes ∧ ∀ x ∈ l, (Lit.int .i64 x.1).wf = true ∧ x.2.length * 1 ≤ reachBytes ∧ ∀ z ∈ x.2, (Lit.int .u8 z).wf = true) :=
  Op.Iz.slice Tryd.underlying26 (by kernel_rfl) (by kernel_rfl) (Op.Iz.struct2 Tryd.underlying82 (by kernel_rfl) ⟨rfl, by kernel_rfl⟩ ⟨rfl, by kernel_rfl⟩ (Op.Is.z (Op.Is.int (by kernel_rfl))) (iz_bytes enc W))
/-- the sizes that a cartridge that came in may have -/
structure Szs (c : CartP) : Prop where
  s0 : c.code.length ≤ 140737488351232
  s2 : c.efs.length * 24 ≤ 140737488351232
  s3 : c.bks.length * 32 ≤ 140737488351232
  sb : ∀ b ∈ c.bks, b.2.length ≤ 140737488351232
theorem cart_argz {enc : TypeId × Value → H} {W : World} {v : Value} {d : DataW H} {p : List MemPlace} {base : Nat} (hv : Value.okWide Tryd.prog W .any base 28 v) (h : DataW.Trod enc Tryd.prog W 0 (fun _ => true) true 28 v d p) (hsz : (d.weights Tryd.prog 28).all (· ≤ reachBytes) = true) :
    ∃ A0 n0 c0 y A2 n2 c2 A3 n3 c3 c, v = .agg #[.slice A0 n0 c0, .int .u16 y, .slice A2 n2 c2, .slice A3 n3 c3] ∧ (CtV W (.agg #[.slice A0 n0 c0, .int .u16 y, .slice A2 n2 c2, .slice A3 n3 c3]) c ∧ WfC c) ∧ Szs c := by
  obtain ⟨cs, rfl, hs⟩ := okWide_struct Tryd.underlying28 hv
  rw [show Tryd.prog.cellsOf 28 = 4 by kernel_rfl] at hs
  obtain ⟨v0, v1, v2, v3, rfl⟩ := Joins.array4 hs
  obtain ⟨fuel, hf⟩ := h
  obtain ⟨y0, y1, y2, y3, n, hx, _, k0, k1, k2, k3⟩ := Joins.trod_struct4 Tryd.underlying28 hf
  obtain ⟨rfl, _⟩ := Prod.mk.inj hx
  have c22 : Tryd.prog.cellsOf 22 = 1 := by kernel_rfl
  have c24 : Tryd.prog.cellsOf 24 = 1 := by kernel_rfl
  have c25 : Tryd.prog.cellsOf 25 = 1 := by kernel_rfl
  have c26 : Tryd.prog.cellsOf 26 = 1 := by kernel_rfl
  simp only [Value.cells, c22, c24, c25, c26] at k0 k1 k2 k3
  replace k0 : DataW.trod enc Tryd.prog W 0 (fun _ => true) true n 22 [v0] = some y0 := by simpa using k0
  replace k1 : DataW.trod enc Tryd.prog W 0 (fun _ => true) true n 24 [v1] = some y1 := by simpa using k1
  replace k2 : DataW.trod enc Tryd.prog W 0 (fun _ => true) true n 25 [v2] = some y2 := by simpa using k2
  replace k3 : DataW.trod enc Tryd.prog W 0 (fun _ => true) true n 26 [v3] = some y3 := by simpa using k3
  have hsz' : (DataW.weightsEach Tryd.prog [22, 24, 25, 26] [y0.1, y1.1, y2.1, y3.1]).all (· ≤ reachBytes) = true := by
    simp only [DataW.weights, Tryd.underlying28] at hsz
    exact hsz
  have hall : ∀ k ∈ DataW.weightsEach Tryd.prog [22, 24, 25, 26] [y0.1, y1.1, y2.1, y3.1], k ≤ reachBytes := fun k hk => by
    have := List.all_eq_true.1 hsz' k hk
    simpa using this
  obtain ⟨code, hk0, hl0, hw0⟩ := iz_bytes enc W _ _ _ k0 (fun k hk => hall k (DataW.weights_mem_each (j := 0) rfl rfl k hk))
  obtain ⟨ent, hk1, hw1, _⟩ := Op.Is.int (enc := enc) (W := W) (k := .u16) (P := Tryd.prog) (t := 24) (by kernel_rfl) _ _ _ k1
  obtain ⟨efs, hk2, hl2, hw2⟩ := iz_efs enc W _ _ _ k2 (fun k hk => hall k (DataW.weights_mem_each (j := 2) rfl rfl k hk))
  obtain ⟨bks, hk3, hl3, hw3⟩ := iz_bks enc W _ _ _ k3 (fun k hk => hall k (DataW.weights_mem_each (j := 3) rfl rfl k hk))
  obtain ⟨A0, c0, rfl, l0, hC0⟩ := slice_k W hk0
  obtain ⟨A2, c2, rfl, l2, hC2⟩ := slice_k W hk2
  obtain ⟨A3, c3, rfl, l3, hC3⟩ := slice_k W hk3
  obtain rfl : v1 = .int .u16 ent := (List.cons.inj (show [v1] = [Value.int .u16 ent] from hk1)).1
  have hu : 0 ≤ ent ∧ ent < 65536 := by
    simp [Lit.wf] at hw1
    rw [show IntKind.u16.min = 0 from rfl, show IntKind.u16.max = 65535 from rfl] at hw1
    omega
  have hr : reachBytes = 140737488351232 := rfl
  rw [hr] at hl0 hl2 hl3
  refine ⟨A0, _, c0, ent, A2, _, c2, A3, _, c3, ⟨code, ent, efs, bks⟩, rfl, ⟨⟨_, _, _, _, _, _, rfl, ⟨hC0, hC2, hC3, l0, l2, l3⟩⟩, ⟨fun z hz => wfB (hw0 z hz), hu.1, hu.2, fun x hx => ?_, fun b hb z hz => wfB ((hw3 b hb).2.2 z hz)⟩⟩, ⟨by show code.length ≤ _; omega, hl2, hl3, fun b hb => by have := (hw3 b hb).2.1; rw [hr] at this; omega⟩⟩
  have h16 := (hw2 x hx).1
  simp [Lit.wf] at h16
  rw [show IntKind.u16.min = 0 from rfl, show IntKind.u16.max = 65535 from rfl] at h16
  omega
end
end Go.Proofs.YtembdahclmffjaaDoor.Pk
