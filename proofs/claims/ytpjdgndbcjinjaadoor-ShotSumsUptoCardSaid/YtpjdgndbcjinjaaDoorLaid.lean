/- The program's table as the door lays it: the start that meets the condition, and what the condition gives. -/
import Derived.Test.YtpjdgndbcjinjaaDoorRows
import Derived.Test.YtpjdgndbcjinjaaDoorSm
import Derived.ProofKit
import Derived.LaidMore
import Derived.OpenShut
import Derived.Stop.Joined
import Derived.Lib.LaidTab
namespace Go.Proofs.YtpjdgndbcjinjaaDoor.Laid
open Go Go.ChangeShapes Go.WideShapes Go.ChangeAt Go.RowKit
set_option linter.unusedVariables false
abbrev laid : List (String × DataW Unit) := [("wisp/pack.table", Rows.laid_wisp_pack_table)]
theorem own : ownKnob Tryd.prog.godebug = none := by kernel_rfl
theorem laidOut : laidOutB Tryd.prog = true := by kernel_rfl
theorem gTab : Tryd.prog.globalNamed "wisp/pack.table" = some 0 := by kernel_rfl
theorem met (os : Os) (args : Array Value) : laidMetH Tryd.prog laid ((World.doorLaid Tryd.prog 400 os).forCall (fun _ _ => 0) ⟨#[], args, []⟩).memory :=
  laidMetH_of_parts3 (fuel := 8) (laidMet_of_run' 8 (by kernel_rfl) (by kernel_rfl)) (by kernel_rfl) (by kernel_rfl)
theorem tab {W : World} (h : laidMetH Tryd.prog laid W) : Pk.Tab W := by
  rw [MakeChecks.laidMetH_plain _ _ _ (by kernel_rfl)] at h
  have hT : Lib.TabIs Tryd.prog W "wisp/pack.table" .u32 Pk.tabI := Lib.tabIs_of_head (t := 74) (e := 28) (n := 16) gTab (by kernel_rfl) Tryd.underlying74 Tryd.underlying28 (by kernel_rfl) (by kernel_rfl) h
  have hc : ∀ i : Nat, i < 16 → W.cell? ⟨0, i, none⟩ = some (.int .u32 (Go.Proofs.YtpjdgndbcjinjaaDoorW.PrintWords.rd Pk.tabI (i : Int))) := fun i hi => by
    have h1 := hT.cell gTab i (by simpa [Pk.tabI] using hi)
    rw [h1]
    simp [Go.Proofs.YtpjdgndbcjinjaaDoorW.PrintWords.rd]
  exact ⟨Nat.lt_of_le_of_lt (Nat.zero_le _) (World.block_lt_of_cell? _ _ (hc 0 (by decide))), hc⟩
end Go.Proofs.YtpjdgndbcjinjaaDoor.Laid
