/-
  No cell of these rows narrows 'for every input' (looked for: loops, veiled, ifaces, maps, wideKeys, modest, calm, conditions, laid).
  DERIVED. THE GIVEN ROWS OF THIS SEAT. 5 by the template 'for every input the law returns true; each argument reads behind the call as it read before'; 0 by the template 'total and deterministic' (their statements: YtembdahclmffjaaTotals.lean).
  GIVEN WITH THE SEED: the statements are not yours to turn. If you find one false, say at which input.
  Laid BY PROGRAM, IN A SANDBOX (cutbox-rows.mjs): the forced cells as the released guide's own fill.sh prints them over the translation 507d0a6055bf2369… (all of the seat's roots in one cut). By AI agents, Wed Nov 11 2026. No macro, syntax, notation, axiom, sorry.
-/
import Derived.Test.YtembdahclmffjaaChecked
import GoSem.Claim
import GoSem.ClaimJoined
import GoSem.ClaimMapViews
import Derived.JoinedTies
import Derived.KernelRfl
namespace Go.Proofs.Ytembdahclmffjaa
/- THE CELL 'sum', in the pinned program and in every row, IS THE sha256 OF THE DUMP (.gsa) THAT YtembdahclmffjaaProg.lean LOADS. Nothing in Lean hashes anything: it is a label: what it is worth is what the hold of that sum in a sandbox is worth. -/
noncomputable def Try.pinned : Pinned := { name := "ytembdahclmffjaa", sum := "507d0a6055bf23697e9b780b03b641edce0a6ef7bbcb98e7f982bef888fa3a41", checked := Try.checked }
namespace Rows
def none {H : Type} : Left H := { results := [], args := [] }

/-- 'wisplaw09.TokenNames': WHATEVER THE INPUT: true; the input reads as it did. -/
def tokenNamesSpec : ChangeSpec := { name := "tokenNames", fn := fun _ => fun
  | [] => { results := [.lit (.bool true)], args := [] }
  | _ => none }
def tokenNamesRow : OpenClaim := { program := "ytembdahclmffjaa", sum := "507d0a6055bf23697e9b780b03b641edce0a6ef7bbcb98e7f982bef888fa3a41", func := "wisp/wisplaw09.TokenNames", spec := "tokenNames", inPlace := ["internal/bytealg.IndexByteString"], apart := false }
def TokenNamesSaid : Prop := tokenNamesRow.holds Try.pinned (OpenSpec.ofChange tokenNamesSpec)

/-- ITS FALSE NEIGHBOUR: 'it returns false'. Refute it at one input. -/
def tokenNamesWrong : ChangeSpec := { name := "tokenNames", fn := fun _ => fun
  | [] => { results := [.lit (.bool false)], args := [] }
  | _ => none }
def TokenNamesWrongFalsely : Prop := tokenNamesRow.holds Try.pinned (OpenSpec.ofChange tokenNamesWrong)

/-- 'wisplaw09.TokenScans': WHATEVER THE INPUT: true; the input reads as it did. -/
def tokenScansSpec : ChangeSpec := { name := "tokenScans", fn := fun _ => fun
  | [d1, d2] => { results := [.lit (.bool true)], args := [d1, d2] }
  | _ => none }
def tokenScansRow : OpenClaim := { program := "ytembdahclmffjaa", sum := "507d0a6055bf23697e9b780b03b641edce0a6ef7bbcb98e7f982bef888fa3a41", func := "wisp/wisplaw09.TokenScans", spec := "tokenScans", inPlace := ["internal/bytealg.IndexByteString"], apart := false }
def TokenScansSaid : Prop := tokenScansRow.holds Try.pinned (OpenSpec.ofChange tokenScansSpec)

/-- ITS FALSE NEIGHBOUR: 'it returns false'. Refute it at one input. -/
def tokenScansWrong : ChangeSpec := { name := "tokenScans", fn := fun _ => fun
  | [d1, d2] => { results := [.lit (.bool false)], args := [d1, d2] }
  | _ => none }
def TokenScansWrongFalsely : Prop := tokenScansRow.holds Try.pinned (OpenSpec.ofChange tokenScansWrong)

/-- 'wisplaw09.TokenDress': WHATEVER THE INPUT: true; the input reads as it did. -/
def tokenDressSpec : ChangeSpec := { name := "tokenDress", fn := fun _ => fun
  | [d1, d2] => { results := [.lit (.bool true)], args := [d1, d2] }
  | _ => none }
def tokenDressRow : OpenClaim := { program := "ytembdahclmffjaa", sum := "507d0a6055bf23697e9b780b03b641edce0a6ef7bbcb98e7f982bef888fa3a41", func := "wisp/wisplaw09.TokenDress", spec := "tokenDress", inPlace := ["internal/bytealg.IndexByteString"], apart := false }
def TokenDressSaid : Prop := tokenDressRow.holds Try.pinned (OpenSpec.ofChange tokenDressSpec)

/-- ITS FALSE NEIGHBOUR: 'it returns false'. Refute it at one input. -/
def tokenDressWrong : ChangeSpec := { name := "tokenDress", fn := fun _ => fun
  | [d1, d2] => { results := [.lit (.bool false)], args := [d1, d2] }
  | _ => none }
def TokenDressWrongFalsely : Prop := tokenDressRow.holds Try.pinned (OpenSpec.ofChange tokenDressWrong)

/-- 'wisplaw09.TokenPlaces': WHATEVER THE INPUT: true; the input reads as it did. -/
def tokenPlacesSpec : ChangeSpec := { name := "tokenPlaces", fn := fun _ => fun
  | [d] => { results := [.lit (.bool true)], args := [d] }
  | _ => none }
def tokenPlacesRow : OpenClaim := { program := "ytembdahclmffjaa", sum := "507d0a6055bf23697e9b780b03b641edce0a6ef7bbcb98e7f982bef888fa3a41", func := "wisp/wisplaw09.TokenPlaces", spec := "tokenPlaces", inPlace := ["internal/bytealg.IndexByteString"], apart := false }
def TokenPlacesSaid : Prop := tokenPlacesRow.holds Try.pinned (OpenSpec.ofChange tokenPlacesSpec)

/-- ITS FALSE NEIGHBOUR: 'it returns false'. Refute it at one input. -/
def tokenPlacesWrong : ChangeSpec := { name := "tokenPlaces", fn := fun _ => fun
  | [d] => { results := [.lit (.bool false)], args := [d] }
  | _ => none }
def TokenPlacesWrongFalsely : Prop := tokenPlacesRow.holds Try.pinned (OpenSpec.ofChange tokenPlacesWrong)

/-- 'wisplaw09.TokenLong': WHATEVER THE INPUT: true; the input reads as it did. -/
def tokenLongSpec : ChangeSpec := { name := "tokenLong", fn := fun _ => fun
  | [d1, d2, d3] => { results := [.lit (.bool true)], args := [d1, d2, d3] }
  | _ => none }
def tokenLongRow : OpenClaim := { program := "ytembdahclmffjaa", sum := "507d0a6055bf23697e9b780b03b641edce0a6ef7bbcb98e7f982bef888fa3a41", func := "wisp/wisplaw09.TokenLong", spec := "tokenLong", inPlace := ["internal/bytealg.IndexByteString"], apart := false }
def TokenLongSaid : Prop := tokenLongRow.holds Try.pinned (OpenSpec.ofChange tokenLongSpec)

/-- ITS FALSE NEIGHBOUR: 'it returns false'. Refute it at one input. -/
def tokenLongWrong : ChangeSpec := { name := "tokenLong", fn := fun _ => fun
  | [d1, d2, d3] => { results := [.lit (.bool false)], args := [d1, d2, d3] }
  | _ => none }
def TokenLongWrongFalsely : Prop := tokenLongRow.holds Try.pinned (OpenSpec.ofChange tokenLongWrong)

/- THE SECOND FORM. 'bulk': how many values and letters a reading holds, each counted each time it is reached (what is shared counts as often as it is met; a slice's spare places count too). A statement '..UptoSaid' is the law's where the arguments, and the package variables that the reading takes, are together of bulk at most 1048576: NARROWER than '..Said'. Prove '..Said' where nothing that the law and all that it calls make is longer than what came in: it says more and counts as full. Else prove '..UptoSaid'. A law counts once. -/
mutual
def uptoBulk {H : Type} : DataW H → Nat
  | .lit (.string bytes) => bytes.length + 1
  | .lit _ => 1
  | .nil => 1
  | .ptr d => uptoBulk d + 1
  | .slice elems spare => uptoBulkAll elems + uptoBulkAll spare + 1
  | .agg parts => uptoBulkAll parts + 1
  | .iface _ d => uptoBulk d + 1
  | .map entries => uptoBulkEntries entries + 1
  | .held _ => 1
def uptoBulkAll {H : Type} : List (DataW H) → Nat
  | [] => 0
  | d :: r => uptoBulk d + uptoBulkAll r
def uptoBulkEntries {H : Type} : List (Lit × DataW H) → Nat
  | [] => 0
  | x :: r => uptoBulkEntry x + uptoBulkEntries r
def uptoBulkEntry {H : Type} : Lit × DataW H → Nat
  | (.string bytes, d) => bytes.length + uptoBulk d + 1
  | (_, d) => uptoBulk d + 1
 end
def uptoSmall : (H : Type) → List (DataW H) → Bool := fun _ ds => decide (uptoBulkAll ds ≤ 1048576)
def OpenSpec.upto (s : _root_.Go.ChangeSpec) : _root_.Go.OpenSpec := { _root_.Go.OpenSpec.ofChange s with cond := some uptoSmall }

/-- 'wisplaw09.TokenNames', WHERE WHAT IT READS IS OF BULK AT MOST 1048576: true; the input reads as it did. -/
def tokenNamesUptoRow : OpenClaim := { program := "ytembdahclmffjaa", sum := "507d0a6055bf23697e9b780b03b641edce0a6ef7bbcb98e7f982bef888fa3a41", func := "wisp/wisplaw09.TokenNames", spec := "tokenNames", inPlace := ["internal/bytealg.IndexByteString"], apart := false, narrowed := true }
def TokenNamesUptoSaid : Prop := tokenNamesUptoRow.holds Try.pinned (OpenSpec.upto tokenNamesSpec)

/-- 'wisplaw09.TokenScans', WHERE WHAT IT READS IS OF BULK AT MOST 1048576: true; the input reads as it did. -/
def tokenScansUptoRow : OpenClaim := { program := "ytembdahclmffjaa", sum := "507d0a6055bf23697e9b780b03b641edce0a6ef7bbcb98e7f982bef888fa3a41", func := "wisp/wisplaw09.TokenScans", spec := "tokenScans", inPlace := ["internal/bytealg.IndexByteString"], apart := false, narrowed := true }
def TokenScansUptoSaid : Prop := tokenScansUptoRow.holds Try.pinned (OpenSpec.upto tokenScansSpec)

/-- 'wisplaw09.TokenDress', WHERE WHAT IT READS IS OF BULK AT MOST 1048576: true; the input reads as it did. -/
def tokenDressUptoRow : OpenClaim := { program := "ytembdahclmffjaa", sum := "507d0a6055bf23697e9b780b03b641edce0a6ef7bbcb98e7f982bef888fa3a41", func := "wisp/wisplaw09.TokenDress", spec := "tokenDress", inPlace := ["internal/bytealg.IndexByteString"], apart := false, narrowed := true }
def TokenDressUptoSaid : Prop := tokenDressUptoRow.holds Try.pinned (OpenSpec.upto tokenDressSpec)

/-- 'wisplaw09.TokenPlaces', WHERE WHAT IT READS IS OF BULK AT MOST 1048576: true; the input reads as it did. -/
def tokenPlacesUptoRow : OpenClaim := { program := "ytembdahclmffjaa", sum := "507d0a6055bf23697e9b780b03b641edce0a6ef7bbcb98e7f982bef888fa3a41", func := "wisp/wisplaw09.TokenPlaces", spec := "tokenPlaces", inPlace := ["internal/bytealg.IndexByteString"], apart := false, narrowed := true }
def TokenPlacesUptoSaid : Prop := tokenPlacesUptoRow.holds Try.pinned (OpenSpec.upto tokenPlacesSpec)

/-- 'wisplaw09.TokenLong', WHERE WHAT IT READS IS OF BULK AT MOST 1048576: true; the input reads as it did. -/
def tokenLongUptoRow : OpenClaim := { program := "ytembdahclmffjaa", sum := "507d0a6055bf23697e9b780b03b641edce0a6ef7bbcb98e7f982bef888fa3a41", func := "wisp/wisplaw09.TokenLong", spec := "tokenLong", inPlace := ["internal/bytealg.IndexByteString"], apart := false, narrowed := true }
def TokenLongUptoSaid : Prop := tokenLongUptoRow.holds Try.pinned (OpenSpec.upto tokenLongSpec)

end Rows
end Go.Proofs.Ytembdahclmffjaa
