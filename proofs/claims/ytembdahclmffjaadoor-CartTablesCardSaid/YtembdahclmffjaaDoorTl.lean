/- A table's pieces that came in as an argument. -/
import Derived.Test.YtembdahclmffjaaDoorTb
import Derived.Test.YtembdahclmffjaaDoorCg
namespace Go.Proofs.YtembdahclmffjaaDoor.Pk
open Go.RowKit Go.Proofs.YtembdahclmffjaaDoorW.PrintWords Go.Proofs.YtembdahclmffjaaDoorW.PrintLast Go.Proofs.YtembdahclmffjaaDoorW.PrintMore Go.Proofs.YtembdahclmffjaaDoor.Mem
open Go.ChangeShapes Go.WideShapes Go.ChangeAt
set_option linter.unusedVariables false
section
variable {H : Type} (enc : TypeId × Value → H) (W : World)
theorem is_pcs : Op.Is enc Tryd.prog W 48 (Kd.slice 56 kPc) (fun l => ∀ x ∈ l, (Lit.int .u8 x.1).wf = true ∧ (Lit.int .u8 x.2.1).wf = true ∧ (Lit.int .u32 x.2.2.1).wf = true ∧ (Lit.int .u32 x.2.2.2).wf = true) (fun l => (l.map fun x => 1 + 1 + 1 + 1).sum + 1) :=
  Op.Is.slice Tryd.underlying48 (by kernel_rfl) (Op.Is.struct4 Tryd.underlying56 (by kernel_rfl) ⟨rfl, by kernel_rfl⟩ ⟨rfl, by kernel_rfl⟩ ⟨rfl, by kernel_rfl⟩ ⟨rfl, by kernel_rfl⟩ (Op.Is.int (by kernel_rfl)) (Op.Is.int (by kernel_rfl)) (Op.Is.int (by kernel_rfl)) (Op.Is.int (by kernel_rfl)))
end
theorem wf16 {x : Int} (h : (Lit.int .u16 x).wf = true) : 0 ≤ x ∧ x ≤ 65535 := by
  simp [Lit.wf] at h
  rw [show IntKind.u16.min = 0 from rfl, show IntKind.u16.max = 65535 from rfl] at h
  exact h
theorem wf32 {x : Int} (h : (Lit.int .u32 x).wf = true) : 0 ≤ x ∧ x ≤ 4294967295 := by
  simp [Lit.wf] at h
  rw [show IntKind.u32.min = 0 from rfl, show IntKind.u32.max = 4294967295 from rfl] at h
  exact h
end Go.Proofs.YtembdahclmffjaaDoor.Pk
