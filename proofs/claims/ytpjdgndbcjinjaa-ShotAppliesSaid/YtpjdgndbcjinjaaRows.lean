/-
  No cell of these rows narrows 'for every input' (looked for: loops, veiled, ifaces, maps, wideKeys, modest, calm, conditions, laid).
  DERIVED. THE GIVEN ROWS OF THIS SEAT. 6 by the template 'for every input the law returns true; each argument reads behind the call as it read before'; 0 by the template 'total and deterministic' (their statements: YtpjdgndbcjinjaaTotals.lean).
  GIVEN WITH THE SEED: the statements are not yours to turn. If you find one false, say at which input.
  Laid BY PROGRAM, IN A SANDBOX (cutbox-rows.mjs): the forced cells as the released guide's own fill.sh prints them over the translation cbf2d5fd613205ae… (all of the seat's roots in one cut). By AI agents, Wed Nov 11 2026. No macro, syntax, notation, axiom, sorry.
-/
import Derived.Test.YtpjdgndbcjinjaaChecked
import GoSem.Claim
import GoSem.ClaimJoined
import GoSem.ClaimMapViews
import Derived.JoinedTies
import Derived.KernelRfl
namespace Go.Proofs.Ytpjdgndbcjinjaa
/- THE CELL 'sum', in the pinned program and in every row, IS THE sha256 OF THE DUMP (.gsa) THAT YtpjdgndbcjinjaaProg.lean LOADS. Nothing in Lean hashes anything: it is a label: what it is worth is what the hold of that sum in a sandbox is worth. -/
noncomputable def Try.pinned : Pinned := { name := "ytpjdgndbcjinjaa", sum := "cbf2d5fd613205ae516eed2c36864f7ee600c2c4c58f90beb4ce169173851719", checked := Try.checked }
namespace Rows
def none {H : Type} : Left H := { results := [], args := [] }

/-- 'wisplaw20.ShotDiffs': WHATEVER THE INPUT: true; the input reads as it did. -/
def shotDiffsSpec : ChangeSpec := { name := "shotDiffs", fn := fun _ => fun
  | [d1, d2] => { results := [.lit (.bool true)], args := [d1, d2] }
  | _ => none }
def shotDiffsRow : OpenClaim := { program := "ytpjdgndbcjinjaa", sum := "cbf2d5fd613205ae516eed2c36864f7ee600c2c4c58f90beb4ce169173851719", func := "wisp/wisplaw20.ShotDiffs", spec := "shotDiffs", unfollowed := true, recurses := true, apart := false }
def ShotDiffsSaid : Prop := shotDiffsRow.holds Try.pinned (OpenSpec.ofChange shotDiffsSpec)

/-- ITS FALSE NEIGHBOUR: 'it returns false'. Refute it at one input. -/
def shotDiffsWrong : ChangeSpec := { name := "shotDiffs", fn := fun _ => fun
  | [d1, d2] => { results := [.lit (.bool false)], args := [d1, d2] }
  | _ => none }
def ShotDiffsWrongFalsely : Prop := shotDiffsRow.holds Try.pinned (OpenSpec.ofChange shotDiffsWrong)

/-- 'wisplaw20.ShotApplies': WHATEVER THE INPUT: true; the input reads as it did. -/
def shotAppliesSpec : ChangeSpec := { name := "shotApplies", fn := fun _ => fun
  | [d1, d2] => { results := [.lit (.bool true)], args := [d1, d2] }
  | _ => none }
def shotAppliesRow : OpenClaim := { program := "ytpjdgndbcjinjaa", sum := "cbf2d5fd613205ae516eed2c36864f7ee600c2c4c58f90beb4ce169173851719", func := "wisp/wisplaw20.ShotApplies", spec := "shotApplies", unfollowed := true, recurses := true, apart := false }
def ShotAppliesSaid : Prop := shotAppliesRow.holds Try.pinned (OpenSpec.ofChange shotAppliesSpec)

/-- ITS FALSE NEIGHBOUR: 'it returns false'. Refute it at one input. -/
def shotAppliesWrong : ChangeSpec := { name := "shotApplies", fn := fun _ => fun
  | [d1, d2] => { results := [.lit (.bool false)], args := [d1, d2] }
  | _ => none }
def ShotAppliesWrongFalsely : Prop := shotAppliesRow.holds Try.pinned (OpenSpec.ofChange shotAppliesWrong)

/-- 'wisplaw20.ShotArts': WHATEVER THE INPUT: true; the input reads as it did. -/
def shotArtsSpec : ChangeSpec := { name := "shotArts", fn := fun _ => fun
  | [d1, d2] => { results := [.lit (.bool true)], args := [d1, d2] }
  | _ => none }
def shotArtsRow : OpenClaim := { program := "ytpjdgndbcjinjaa", sum := "cbf2d5fd613205ae516eed2c36864f7ee600c2c4c58f90beb4ce169173851719", func := "wisp/wisplaw20.ShotArts", spec := "shotArts", unfollowed := true, recurses := true, apart := false }
def ShotArtsSaid : Prop := shotArtsRow.holds Try.pinned (OpenSpec.ofChange shotArtsSpec)

/-- ITS FALSE NEIGHBOUR: 'it returns false'. Refute it at one input. -/
def shotArtsWrong : ChangeSpec := { name := "shotArts", fn := fun _ => fun
  | [d1, d2] => { results := [.lit (.bool false)], args := [d1, d2] }
  | _ => none }
def ShotArtsWrongFalsely : Prop := shotArtsRow.holds Try.pinned (OpenSpec.ofChange shotArtsWrong)

/-- 'wisplaw20.ShotMoves': WHATEVER THE INPUT: true; the input reads as it did. -/
def shotMovesSpec : ChangeSpec := { name := "shotMoves", fn := fun _ => fun
  | [d1, d2] => { results := [.lit (.bool true)], args := [d1, d2] }
  | _ => none }
def shotMovesRow : OpenClaim := { program := "ytpjdgndbcjinjaa", sum := "cbf2d5fd613205ae516eed2c36864f7ee600c2c4c58f90beb4ce169173851719", func := "wisp/wisplaw20.ShotMoves", spec := "shotMoves", unfollowed := true, recurses := true, apart := false }
def ShotMovesSaid : Prop := shotMovesRow.holds Try.pinned (OpenSpec.ofChange shotMovesSpec)

/-- ITS FALSE NEIGHBOUR: 'it returns false'. Refute it at one input. -/
def shotMovesWrong : ChangeSpec := { name := "shotMoves", fn := fun _ => fun
  | [d1, d2] => { results := [.lit (.bool false)], args := [d1, d2] }
  | _ => none }
def ShotMovesWrongFalsely : Prop := shotMovesRow.holds Try.pinned (OpenSpec.ofChange shotMovesWrong)

/-- 'wisplaw20.ShotPacks': WHATEVER THE INPUT: true; the input reads as it did. -/
def shotPacksSpec : ChangeSpec := { name := "shotPacks", fn := fun _ => fun
  | [d1, d2] => { results := [.lit (.bool true)], args := [d1, d2] }
  | _ => none }
def shotPacksRow : OpenClaim := { program := "ytpjdgndbcjinjaa", sum := "cbf2d5fd613205ae516eed2c36864f7ee600c2c4c58f90beb4ce169173851719", func := "wisp/wisplaw20.ShotPacks", spec := "shotPacks", inPlace := ["internal/bytealg.MakeNoZero"], unfollowed := true, recurses := true, apart := false }
def ShotPacksSaid : Prop := shotPacksRow.holds Try.pinned (OpenSpec.ofChange shotPacksSpec)

/-- ITS FALSE NEIGHBOUR: 'it returns false'. Refute it at one input. -/
def shotPacksWrong : ChangeSpec := { name := "shotPacks", fn := fun _ => fun
  | [d1, d2] => { results := [.lit (.bool false)], args := [d1, d2] }
  | _ => none }
def ShotPacksWrongFalsely : Prop := shotPacksRow.holds Try.pinned (OpenSpec.ofChange shotPacksWrong)

/-- 'wisplaw20.ShotBack': WHATEVER THE INPUT: true; the input reads as it did. -/
def shotBackSpec : ChangeSpec := { name := "shotBack", fn := fun _ => fun
  | [d1, d2, d3] => { results := [.lit (.bool true)], args := [d1, d2, d3] }
  | _ => none }
def shotBackRow : OpenClaim := { program := "ytpjdgndbcjinjaa", sum := "cbf2d5fd613205ae516eed2c36864f7ee600c2c4c58f90beb4ce169173851719", func := "wisp/wisplaw20.ShotBack", spec := "shotBack", inPlace := ["internal/bytealg.MakeNoZero"], unfollowed := true, recurses := true, apart := false }
def ShotBackSaid : Prop := shotBackRow.holds Try.pinned (OpenSpec.ofChange shotBackSpec)

/-- ITS FALSE NEIGHBOUR: 'it returns false'. Refute it at one input. -/
def shotBackWrong : ChangeSpec := { name := "shotBack", fn := fun _ => fun
  | [d1, d2, d3] => { results := [.lit (.bool false)], args := [d1, d2, d3] }
  | _ => none }
def ShotBackWrongFalsely : Prop := shotBackRow.holds Try.pinned (OpenSpec.ofChange shotBackWrong)

/- THE SECOND FORM. 'bulk': how many values and letters a reading holds, each counted each time it is reached (what is shared counts as often as it is met; a slice's spare places count too). A statement '..UptoSaid' is the law's where the arguments, and the package variables that the reading takes, are together of bulk at most 1048576: NARROWER than '..Said'. Prove '..Said' where nothing that the law and all that it calls make is longer than what came in: it says more and counts as full. Else prove '..UptoSaid'. A law counts once. -/
mutual
def uptoBulk {H : Type} : DataW H → Nat
  | .lit (.string bytes) => bytes.length + 1
  | .lit _ => 1
  | .nil => 1
  | .ptr d => uptoBulk d + 1
  | .slice elems spare => uptoBulkAll elems + uptoBulkAll spare + 1
  | .agg parts => uptoBulkAll parts + 1
  | .iface _ d => uptoBulk d + 1
  | .map entries => uptoBulkEntries entries + 1
  | .held _ => 1
def uptoBulkAll {H : Type} : List (DataW H) → Nat
  | [] => 0
  | d :: r => uptoBulk d + uptoBulkAll r
def uptoBulkEntries {H : Type} : List (Lit × DataW H) → Nat
  | [] => 0
  | x :: r => uptoBulkEntry x + uptoBulkEntries r
def uptoBulkEntry {H : Type} : Lit × DataW H → Nat
  | (.string bytes, d) => bytes.length + uptoBulk d + 1
  | (_, d) => uptoBulk d + 1
 end
def uptoSmall : (H : Type) → List (DataW H) → Bool := fun _ ds => decide (uptoBulkAll ds ≤ 1048576)
def OpenSpec.upto (s : _root_.Go.ChangeSpec) : _root_.Go.OpenSpec := { _root_.Go.OpenSpec.ofChange s with cond := some uptoSmall }

/-- 'wisplaw20.ShotDiffs', WHERE WHAT IT READS IS OF BULK AT MOST 1048576: true; the input reads as it did. -/
def shotDiffsUptoRow : OpenClaim := { program := "ytpjdgndbcjinjaa", sum := "cbf2d5fd613205ae516eed2c36864f7ee600c2c4c58f90beb4ce169173851719", func := "wisp/wisplaw20.ShotDiffs", spec := "shotDiffs", unfollowed := true, recurses := true, apart := false, narrowed := true }
def ShotDiffsUptoSaid : Prop := shotDiffsUptoRow.holds Try.pinned (OpenSpec.upto shotDiffsSpec)

/-- 'wisplaw20.ShotApplies', WHERE WHAT IT READS IS OF BULK AT MOST 1048576: true; the input reads as it did. -/
def shotAppliesUptoRow : OpenClaim := { program := "ytpjdgndbcjinjaa", sum := "cbf2d5fd613205ae516eed2c36864f7ee600c2c4c58f90beb4ce169173851719", func := "wisp/wisplaw20.ShotApplies", spec := "shotApplies", unfollowed := true, recurses := true, apart := false, narrowed := true }
def ShotAppliesUptoSaid : Prop := shotAppliesUptoRow.holds Try.pinned (OpenSpec.upto shotAppliesSpec)

/-- 'wisplaw20.ShotArts', WHERE WHAT IT READS IS OF BULK AT MOST 1048576: true; the input reads as it did. -/
def shotArtsUptoRow : OpenClaim := { program := "ytpjdgndbcjinjaa", sum := "cbf2d5fd613205ae516eed2c36864f7ee600c2c4c58f90beb4ce169173851719", func := "wisp/wisplaw20.ShotArts", spec := "shotArts", unfollowed := true, recurses := true, apart := false, narrowed := true }
def ShotArtsUptoSaid : Prop := shotArtsUptoRow.holds Try.pinned (OpenSpec.upto shotArtsSpec)

/-- 'wisplaw20.ShotMoves', WHERE WHAT IT READS IS OF BULK AT MOST 1048576: true; the input reads as it did. -/
def shotMovesUptoRow : OpenClaim := { program := "ytpjdgndbcjinjaa", sum := "cbf2d5fd613205ae516eed2c36864f7ee600c2c4c58f90beb4ce169173851719", func := "wisp/wisplaw20.ShotMoves", spec := "shotMoves", unfollowed := true, recurses := true, apart := false, narrowed := true }
def ShotMovesUptoSaid : Prop := shotMovesUptoRow.holds Try.pinned (OpenSpec.upto shotMovesSpec)

/-- 'wisplaw20.ShotPacks', WHERE WHAT IT READS IS OF BULK AT MOST 1048576: true; the input reads as it did. -/
def shotPacksUptoRow : OpenClaim := { program := "ytpjdgndbcjinjaa", sum := "cbf2d5fd613205ae516eed2c36864f7ee600c2c4c58f90beb4ce169173851719", func := "wisp/wisplaw20.ShotPacks", spec := "shotPacks", inPlace := ["internal/bytealg.MakeNoZero"], unfollowed := true, recurses := true, apart := false, narrowed := true }
def ShotPacksUptoSaid : Prop := shotPacksUptoRow.holds Try.pinned (OpenSpec.upto shotPacksSpec)

/-- 'wisplaw20.ShotBack', WHERE WHAT IT READS IS OF BULK AT MOST 1048576: true; the input reads as it did. -/
def shotBackUptoRow : OpenClaim := { program := "ytpjdgndbcjinjaa", sum := "cbf2d5fd613205ae516eed2c36864f7ee600c2c4c58f90beb4ce169173851719", func := "wisp/wisplaw20.ShotBack", spec := "shotBack", inPlace := ["internal/bytealg.MakeNoZero"], unfollowed := true, recurses := true, apart := false, narrowed := true }
def ShotBackUptoSaid : Prop := shotBackUptoRow.holds Try.pinned (OpenSpec.upto shotBackSpec)

end Rows
end Go.Proofs.Ytpjdgndbcjinjaa
