/-
  DERIVED. GIVEN WITH THE SEED: THE CARDS: each row of YtpjdgndbcjinjaaDoorRows.lean that lists a variable, with what it lists TIED to the program's text (the seventh form; the later family's looks); each row that meets fmt, with fmt's text TOLD by the authors' own Lean function (tested against real Go, not proved from fmt's source: count such statements apart). THE CARD IS WHAT COUNTS. Prove the row's statement (the work); the ties are given (YtpjdgndbcjinjaaDoorTie.lean); close each card by the builder's one call (the guide's Derived/Test/ToyasCard.lean, 'card_holds'). Laid BY PROGRAM, IN A SANDBOX (cutbox-door.mjs). By AI agents, Wed Nov 11 2026. No macro, syntax, notation, axiom, sorry.
-/
import Derived.Test.YtpjdgndbcjinjaaDoorRows
import GoSem.ClaimSeven
namespace Go.Proofs.YtpjdgndbcjinjaaDoor
namespace Rows

/-- THE TIED CARD OF 'wisplaw20.ShotSums'. -/
def shotSumsCard : Claim7 := { stood := { row := shotSumsRow, standIns := [], harness := (true, "3e926f60f802db634988818b93307d9933727bf034a823c958a0b31caeef6965"), looks := false }, kinds := [], alts := [], laidByText := true, laidKinds := [.data], laidTests := true, laidLooks := .later }
def ShotSumsCardSaid : Prop := Claim7.holds Tryd.pinned (.plain (OpenSpec.ofChange shotSumsSpec)) shotSumsCard

/-- THE TIED CARD OF 'wisplaw20.ShotTold'. -/
def shotToldCard : Claim7 := { stood := { row := shotToldRow, standIns := [], harness := (true, "3e926f60f802db634988818b93307d9933727bf034a823c958a0b31caeef6965"), looks := false }, kinds := [], alts := [], laidByText := true, laidKinds := [.data, .data, .data, .data], laidTests := true, laidLooks := .later }
def ShotToldCardSaid : Prop := Claim7.holds Tryd.pinned (.plain (OpenSpec.ofChange shotToldSpec)) shotToldCard

/-- THE TIED CARD OF 'wisplaw20.ShotNames'. -/
def shotNamesCard : Claim7 := { stood := { row := shotNamesRow, standIns := [], harness := (true, "3e926f60f802db634988818b93307d9933727bf034a823c958a0b31caeef6965"), looks := false }, kinds := [], alts := [], laidByText := true, laidKinds := [.data, .data, .data], laidTests := true, laidLooks := .later }
def ShotNamesCardSaid : Prop := Claim7.holds Tryd.pinned (.plain (OpenSpec.ofChange shotNamesSpec)) shotNamesCard

/-- THE SECOND FORM's CARD OF 'wisplaw20.ShotSums'. -/
def shotSumsUptoCard : Claim7 := { stood := { row := shotSumsUptoRow, standIns := [], harness := (true, "3e926f60f802db634988818b93307d9933727bf034a823c958a0b31caeef6965"), looks := false }, kinds := [], alts := [], laidByText := true, laidKinds := [.data], laidTests := true, laidLooks := .later }
def ShotSumsUptoCardSaid : Prop := Claim7.holds Tryd.pinned (.plain (OpenSpec.upto shotSumsSpec)) shotSumsUptoCard

/-- THE SECOND FORM's CARD OF 'wisplaw20.ShotTold'. -/
def shotToldUptoCard : Claim7 := { stood := { row := shotToldUptoRow, standIns := [], harness := (true, "3e926f60f802db634988818b93307d9933727bf034a823c958a0b31caeef6965"), looks := false }, kinds := [], alts := [], laidByText := true, laidKinds := [.data, .data, .data, .data], laidTests := true, laidLooks := .later }
def ShotToldUptoCardSaid : Prop := Claim7.holds Tryd.pinned (.plain (OpenSpec.upto shotToldSpec)) shotToldUptoCard

/-- THE SECOND FORM's CARD OF 'wisplaw20.ShotNames'. -/
def shotNamesUptoCard : Claim7 := { stood := { row := shotNamesUptoRow, standIns := [], harness := (true, "3e926f60f802db634988818b93307d9933727bf034a823c958a0b31caeef6965"), looks := false }, kinds := [], alts := [], laidByText := true, laidKinds := [.data, .data, .data], laidTests := true, laidLooks := .later }
def ShotNamesUptoCardSaid : Prop := Claim7.holds Tryd.pinned (.plain (OpenSpec.upto shotNamesSpec)) shotNamesUptoCard
end Rows
end Go.Proofs.YtpjdgndbcjinjaaDoor
