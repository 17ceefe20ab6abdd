/-
  DERIVED. GIVEN WITH THE SEED: THE CARDS: each row of YtgnjlgfnpfjjnaaDoorRows.lean that lists a variable, with what it lists TIED to the program's text (the seventh form; the later family's looks); each row that meets fmt, with fmt's text TOLD by the authors' own Lean function (tested against real Go, not proved from fmt's source: count such statements apart). THE CARD IS WHAT COUNTS. Prove the row's statement (the work); the ties are given (YtgnjlgfnpfjjnaaDoorTie.lean); close each card by the builder's one call (the guide's Derived/Test/ToyasCard.lean, 'card_holds'). Laid BY PROGRAM, IN A SANDBOX (cutbox-door.mjs). By AI agents, Wed Nov 11 2026. No macro, syntax, notation, axiom, sorry.
-/
import Derived.Test.YtgnjlgfnpfjjnaaDoorRows
import GoSem.ClaimSeven
namespace Go.Proofs.YtgnjlgfnpfjjnaaDoor
namespace Rows

/-- THE TIED CARD OF 'wisplaw03.PackSums'. -/
def packSumsCard : Claim7 := { stood := { row := packSumsRow, standIns := [], harness := (true, "09ceb87b79bea3c40d83fd9f625c95fa9d7e946e0a9eb2fbcd82479ec9a2efd5"), looks := false }, kinds := [], alts := [], laidByText := true, laidKinds := [.data], laidTests := true, laidLooks := .later }
def PackSumsCardSaid : Prop := Claim7.holds Tryd.pinned (.plain (OpenSpec.ofChange packSumsSpec)) packSumsCard

/-- THE TIED CARD OF 'wisplaw03.PackTurned'. -/
def packTurnedCard : Claim7 := { stood := { row := packTurnedRow, standIns := [], harness := (true, "09ceb87b79bea3c40d83fd9f625c95fa9d7e946e0a9eb2fbcd82479ec9a2efd5"), looks := false }, kinds := [], alts := [], laidByText := true, laidKinds := [.data], laidTests := true, laidLooks := .later }
def PackTurnedCardSaid : Prop := Claim7.holds Tryd.pinned (.plain (OpenSpec.ofChange packTurnedSpec)) packTurnedCard

/-- THE TIED CARD OF 'wisplaw03.PackWrites'. -/
def packWritesCard : Claim7 := { stood := { row := packWritesRow, standIns := [], harness := (true, "09ceb87b79bea3c40d83fd9f625c95fa9d7e946e0a9eb2fbcd82479ec9a2efd5"), looks := false }, kinds := [], alts := [], laidByText := true, laidKinds := [.data], laidTests := true, laidLooks := .later }
def PackWritesCardSaid : Prop := Claim7.holds Tryd.pinned (.plain (OpenSpec.ofChange packWritesSpec)) packWritesCard

/-- THE TIED CARD OF 'wisplaw03.PackReads'. -/
def packReadsCard : Claim7 := { stood := { row := packReadsRow, standIns := [], harness := (true, "09ceb87b79bea3c40d83fd9f625c95fa9d7e946e0a9eb2fbcd82479ec9a2efd5"), looks := false }, kinds := [], alts := [], laidByText := true, laidKinds := [.data], laidTests := true, laidLooks := .later }
def PackReadsCardSaid : Prop := Claim7.holds Tryd.pinned (.plain (OpenSpec.ofChange packReadsSpec)) packReadsCard

/-- THE TIED CARD OF 'wisplaw03.PackBack'. -/
def packBackCard : Claim7 := { stood := { row := packBackRow, standIns := [], harness := (true, "09ceb87b79bea3c40d83fd9f625c95fa9d7e946e0a9eb2fbcd82479ec9a2efd5"), looks := false }, kinds := [], alts := [], laidByText := true, laidKinds := [.data], laidTests := true, laidLooks := .later }
def PackBackCardSaid : Prop := Claim7.holds Tryd.pinned (.plain (OpenSpec.ofChange packBackSpec)) packBackCard

/-- THE SECOND FORM's CARD OF 'wisplaw03.PackSums'. -/
def packSumsUptoCard : Claim7 := { stood := { row := packSumsUptoRow, standIns := [], harness := (true, "09ceb87b79bea3c40d83fd9f625c95fa9d7e946e0a9eb2fbcd82479ec9a2efd5"), looks := false }, kinds := [], alts := [], laidByText := true, laidKinds := [.data], laidTests := true, laidLooks := .later }
def PackSumsUptoCardSaid : Prop := Claim7.holds Tryd.pinned (.plain (OpenSpec.upto packSumsSpec)) packSumsUptoCard

/-- THE SECOND FORM's CARD OF 'wisplaw03.PackTurned'. -/
def packTurnedUptoCard : Claim7 := { stood := { row := packTurnedUptoRow, standIns := [], harness := (true, "09ceb87b79bea3c40d83fd9f625c95fa9d7e946e0a9eb2fbcd82479ec9a2efd5"), looks := false }, kinds := [], alts := [], laidByText := true, laidKinds := [.data], laidTests := true, laidLooks := .later }
def PackTurnedUptoCardSaid : Prop := Claim7.holds Tryd.pinned (.plain (OpenSpec.upto packTurnedSpec)) packTurnedUptoCard

/-- THE SECOND FORM's CARD OF 'wisplaw03.PackWrites'. -/
def packWritesUptoCard : Claim7 := { stood := { row := packWritesUptoRow, standIns := [], harness := (true, "09ceb87b79bea3c40d83fd9f625c95fa9d7e946e0a9eb2fbcd82479ec9a2efd5"), looks := false }, kinds := [], alts := [], laidByText := true, laidKinds := [.data], laidTests := true, laidLooks := .later }
def PackWritesUptoCardSaid : Prop := Claim7.holds Tryd.pinned (.plain (OpenSpec.upto packWritesSpec)) packWritesUptoCard

/-- THE SECOND FORM's CARD OF 'wisplaw03.PackReads'. -/
def packReadsUptoCard : Claim7 := { stood := { row := packReadsUptoRow, standIns := [], harness := (true, "09ceb87b79bea3c40d83fd9f625c95fa9d7e946e0a9eb2fbcd82479ec9a2efd5"), looks := false }, kinds := [], alts := [], laidByText := true, laidKinds := [.data], laidTests := true, laidLooks := .later }
def PackReadsUptoCardSaid : Prop := Claim7.holds Tryd.pinned (.plain (OpenSpec.upto packReadsSpec)) packReadsUptoCard

/-- THE SECOND FORM's CARD OF 'wisplaw03.PackBack'. -/
def packBackUptoCard : Claim7 := { stood := { row := packBackUptoRow, standIns := [], harness := (true, "09ceb87b79bea3c40d83fd9f625c95fa9d7e946e0a9eb2fbcd82479ec9a2efd5"), looks := false }, kinds := [], alts := [], laidByText := true, laidKinds := [.data], laidTests := true, laidLooks := .later }
def PackBackUptoCardSaid : Prop := Claim7.holds Tryd.pinned (.plain (OpenSpec.upto packBackSpec)) packBackUptoCard
end Rows
end Go.Proofs.YtgnjlgfnpfjjnaaDoor
