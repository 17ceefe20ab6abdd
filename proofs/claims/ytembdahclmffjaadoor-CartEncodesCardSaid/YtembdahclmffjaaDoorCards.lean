/-
  DERIVED. GIVEN WITH THE SEED: THE CARDS: each row of YtembdahclmffjaaDoorRows.lean that lists a variable, with what it lists TIED to the program's text (the seventh form; the later family's looks); each row that meets fmt, with fmt's text TOLD by the authors' own Lean function (tested against real Go, not proved from fmt's source: count such statements apart). THE CARD IS WHAT COUNTS. Prove the row's statement (the work); the ties are given (YtembdahclmffjaaDoorTie.lean); close each card by the builder's one call (the guide's Derived/Test/ToyasCard.lean, 'card_holds'). Laid BY PROGRAM, IN A SANDBOX (cutbox-door.mjs). By AI agents, Wed Nov 11 2026. No macro, syntax, notation, axiom, sorry.
-/
import Derived.Test.YtembdahclmffjaaDoorRows
import GoSem.ClaimSeven
namespace Go.Proofs.YtembdahclmffjaaDoor
namespace Rows

/-- THE TIED CARD OF 'wisplaw07.CartDecodes'. -/
def cartDecodesCard : Claim7 := { stood := { row := cartDecodesRow, standIns := [], harness := (true, "328306136ae31de67b7c378e18bdcb628cccd4f287a31be3f9bef5befb6b45df"), looks := true }, kinds := [], alts := [], laidByText := true, laidKinds := [.data], laidTests := true, laidLooks := .later }
def CartDecodesCardSaid : Prop := Claim7.holds Tryd.pinned (.plain (OpenSpec.ofChange cartDecodesSpec)) cartDecodesCard

/-- THE TIED CARD OF 'wisplaw07.CartRound'. -/
def cartRoundCard : Claim7 := { stood := { row := cartRoundRow, standIns := [], harness := (true, "328306136ae31de67b7c378e18bdcb628cccd4f287a31be3f9bef5befb6b45df"), looks := true }, kinds := [], alts := [], laidByText := true, laidKinds := [.data], laidTests := true, laidLooks := .later }
def CartRoundCardSaid : Prop := Claim7.holds Tryd.pinned (.plain (OpenSpec.ofChange cartRoundSpec)) cartRoundCard

/-- THE TIED CARD OF 'wisplaw07.CartTurned'. -/
def cartTurnedCard : Claim7 := { stood := { row := cartTurnedRow, standIns := [], harness := (true, "328306136ae31de67b7c378e18bdcb628cccd4f287a31be3f9bef5befb6b45df"), looks := true }, kinds := [], alts := [], laidByText := true, laidKinds := [.data], laidTests := true, laidLooks := .later }
def CartTurnedCardSaid : Prop := Claim7.holds Tryd.pinned (.plain (OpenSpec.ofChange cartTurnedSpec)) cartTurnedCard

/-- THE TIED CARD OF 'wisplaw07.CartTables'. -/
def cartTablesCard : Claim7 := { stood := { row := cartTablesRow, standIns := [], harness := (true, "328306136ae31de67b7c378e18bdcb628cccd4f287a31be3f9bef5befb6b45df"), looks := true }, kinds := [], alts := [], laidByText := true, laidKinds := [.data], laidTests := true, laidLooks := .later }
def CartTablesCardSaid : Prop := Claim7.holds Tryd.pinned (.plain (OpenSpec.ofChange cartTablesSpec)) cartTablesCard

/-- THE TIED CARD OF 'wisplaw07.CartEncodes'. -/
def cartEncodesCard : Claim7 := { stood := { row := cartEncodesRow, standIns := [], harness := (true, "328306136ae31de67b7c378e18bdcb628cccd4f287a31be3f9bef5befb6b45df"), looks := true }, kinds := [], alts := [], laidByText := true, laidKinds := [.data], laidTests := true, laidLooks := .later }
def CartEncodesCardSaid : Prop := Claim7.holds Tryd.pinned (.plain (OpenSpec.ofChange cartEncodesSpec)) cartEncodesCard

/-- THE SECOND FORM's CARD OF 'wisplaw07.CartDecodes'. -/
def cartDecodesUptoCard : Claim7 := { stood := { row := cartDecodesUptoRow, standIns := [], harness := (true, "328306136ae31de67b7c378e18bdcb628cccd4f287a31be3f9bef5befb6b45df"), looks := true }, kinds := [], alts := [], laidByText := true, laidKinds := [.data], laidTests := true, laidLooks := .later }
def CartDecodesUptoCardSaid : Prop := Claim7.holds Tryd.pinned (.plain (OpenSpec.upto cartDecodesSpec)) cartDecodesUptoCard

/-- THE SECOND FORM's CARD OF 'wisplaw07.CartRound'. -/
def cartRoundUptoCard : Claim7 := { stood := { row := cartRoundUptoRow, standIns := [], harness := (true, "328306136ae31de67b7c378e18bdcb628cccd4f287a31be3f9bef5befb6b45df"), looks := true }, kinds := [], alts := [], laidByText := true, laidKinds := [.data], laidTests := true, laidLooks := .later }
def CartRoundUptoCardSaid : Prop := Claim7.holds Tryd.pinned (.plain (OpenSpec.upto cartRoundSpec)) cartRoundUptoCard

/-- THE SECOND FORM's CARD OF 'wisplaw07.CartTurned'. -/
def cartTurnedUptoCard : Claim7 := { stood := { row := cartTurnedUptoRow, standIns := [], harness := (true, "328306136ae31de67b7c378e18bdcb628cccd4f287a31be3f9bef5befb6b45df"), looks := true }, kinds := [], alts := [], laidByText := true, laidKinds := [.data], laidTests := true, laidLooks := .later }
def CartTurnedUptoCardSaid : Prop := Claim7.holds Tryd.pinned (.plain (OpenSpec.upto cartTurnedSpec)) cartTurnedUptoCard

/-- THE SECOND FORM's CARD OF 'wisplaw07.CartTables'. -/
def cartTablesUptoCard : Claim7 := { stood := { row := cartTablesUptoRow, standIns := [], harness := (true, "328306136ae31de67b7c378e18bdcb628cccd4f287a31be3f9bef5befb6b45df"), looks := true }, kinds := [], alts := [], laidByText := true, laidKinds := [.data], laidTests := true, laidLooks := .later }
def CartTablesUptoCardSaid : Prop := Claim7.holds Tryd.pinned (.plain (OpenSpec.upto cartTablesSpec)) cartTablesUptoCard

/-- THE SECOND FORM's CARD OF 'wisplaw07.CartEncodes'. -/
def cartEncodesUptoCard : Claim7 := { stood := { row := cartEncodesUptoRow, standIns := [], harness := (true, "328306136ae31de67b7c378e18bdcb628cccd4f287a31be3f9bef5befb6b45df"), looks := true }, kinds := [], alts := [], laidByText := true, laidKinds := [.data], laidTests := true, laidLooks := .later }
def CartEncodesUptoCardSaid : Prop := Claim7.holds Tryd.pinned (.plain (OpenSpec.upto cartEncodesSpec)) cartEncodesUptoCard
end Rows
end Go.Proofs.YtembdahclmffjaaDoor
