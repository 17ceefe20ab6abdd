/-
  NARROWER THAN 'FOR EVERY INPUT', by the rows' own cells (each row's printed sentence says how): CartDecodes: laid · CartRound: laid · CartTurned: laid · CartTables: laid · CartEncodes: laid.
  DERIVED. THE GIVEN ROWS OF THIS SEAT. 5 by the template 'for every input the law returns true; each argument reads behind the call as it read before'; 0 by the template 'total and deterministic' (their statements: YtembdahclmffjaaDoorTotals.lean).
  GIVEN WITH THE SEED: the statements are not yours to turn. If you find one false, say at which input.
  Laid BY PROGRAM, IN A SANDBOX (cutbox-rows.mjs): the forced cells as the released guide's own fill.sh prints them over the translation 4d42514215675414… (all of the seat's roots in one cut). By AI agents, Wed Nov 11 2026. No macro, syntax, notation, axiom, sorry.
-/
import Derived.Test.YtembdahclmffjaaDoorChecked
import GoSem.Claim
import GoSem.ClaimJoined
import GoSem.ClaimMapViews
import Derived.JoinedTies
import Derived.KernelRfl
namespace Go.Proofs.YtembdahclmffjaaDoor
/- THE CELL 'sum', in the pinned program and in every row, IS THE sha256 OF THE DUMP (.gsa) THAT YtembdahclmffjaaDoorProg.lean LOADS. Nothing in Lean hashes anything: it is a label: what it is worth is what the hold of that sum in a sandbox is worth. -/
noncomputable def Tryd.pinned : Pinned := { name := "ytembdahclmffjaadoor", sum := "4d4251421567541415b9b9f00a4e331667bd5a6a7a44f193542b62a1cba02730", checked := Tryd.checked }
namespace Rows
def none {H : Type} : Left H := { results := [], args := [] }

/- WHAT THE LISTED PACKAGE-LEVEL VARIABLES READ AS WHEN THE CALL BEGINS. Each datum BY PROGRAM (the guide's laid-datum.mjs) off the statement by which the dump's own 'gosem.cut.vars' lays the variable. In a bare row this is a premise. The card (YtembdahclmffjaaDoorCards.lean) ties it to the program's text. -/
def laid_wisp_pack_table {H : Type} : DataW H := .agg [.lit (.int .u32 0), .lit (.int .u32 498536548), .lit (.int .u32 997073096), .lit (.int .u32 651767980), .lit (.int .u32 1994146192), .lit (.int .u32 1802195444), .lit (.int .u32 1303535960), .lit (.int .u32 1342533948), .lit (.int .u32 3988292384), .lit (.int .u32 4027552580), .lit (.int .u32 3604390888), .lit (.int .u32 3412177804), .lit (.int .u32 2607071920), .lit (.int .u32 2262029012), .lit (.int .u32 2685067896), .lit (.int .u32 3183342108)]

/-- 'wisplaw07.CartDecodes': WHATEVER THE INPUT: true; the input reads as it did. -/
def cartDecodesSpec : ChangeSpec := { name := "cartDecodes", fn := fun _ => fun
  | [d] => { results := [.lit (.bool true)], args := [d] }
  | _ => none }
def cartDecodesRow : OpenClaim := { program := "ytembdahclmffjaadoor", sum := "4d4251421567541415b9b9f00a4e331667bd5a6a7a44f193542b62a1cba02730", func := "wisp/wisplaw07.CartDecodes", spec := "cartDecodes", unfollowed := true, recurses := true, named := ["wisp/pack.table"], apart := false, laid := [("wisp/pack.table", laid_wisp_pack_table)] }
def CartDecodesSaid : Prop := cartDecodesRow.holds Tryd.pinned (OpenSpec.ofChange cartDecodesSpec)

/-- ITS FALSE NEIGHBOUR: 'it returns false'. Refute it at one input. -/
def cartDecodesWrong : ChangeSpec := { name := "cartDecodes", fn := fun _ => fun
  | [d] => { results := [.lit (.bool false)], args := [d] }
  | _ => none }
def CartDecodesWrongFalsely : Prop := cartDecodesRow.holds Tryd.pinned (OpenSpec.ofChange cartDecodesWrong)

/-- 'wisplaw07.CartRound': WHATEVER THE INPUT: true; the input reads as it did. -/
def cartRoundSpec : ChangeSpec := { name := "cartRound", fn := fun _ => fun
  | [d1, d2] => { results := [.lit (.bool true)], args := [d1, d2] }
  | _ => none }
def cartRoundRow : OpenClaim := { program := "ytembdahclmffjaadoor", sum := "4d4251421567541415b9b9f00a4e331667bd5a6a7a44f193542b62a1cba02730", func := "wisp/wisplaw07.CartRound", spec := "cartRound", unfollowed := true, recurses := true, named := ["wisp/pack.table"], apart := false, laid := [("wisp/pack.table", laid_wisp_pack_table)] }
def CartRoundSaid : Prop := cartRoundRow.holds Tryd.pinned (OpenSpec.ofChange cartRoundSpec)

/-- ITS FALSE NEIGHBOUR: 'it returns false'. Refute it at one input. -/
def cartRoundWrong : ChangeSpec := { name := "cartRound", fn := fun _ => fun
  | [d1, d2] => { results := [.lit (.bool false)], args := [d1, d2] }
  | _ => none }
def CartRoundWrongFalsely : Prop := cartRoundRow.holds Tryd.pinned (OpenSpec.ofChange cartRoundWrong)

/-- 'wisplaw07.CartTurned': WHATEVER THE INPUT: true; the input reads as it did. -/
def cartTurnedSpec : ChangeSpec := { name := "cartTurned", fn := fun _ => fun
  | [d1, d2, d3, d4] => { results := [.lit (.bool true)], args := [d1, d2, d3, d4] }
  | _ => none }
def cartTurnedRow : OpenClaim := { program := "ytembdahclmffjaadoor", sum := "4d4251421567541415b9b9f00a4e331667bd5a6a7a44f193542b62a1cba02730", func := "wisp/wisplaw07.CartTurned", spec := "cartTurned", unfollowed := true, recurses := true, named := ["wisp/pack.table"], apart := false, laid := [("wisp/pack.table", laid_wisp_pack_table)] }
def CartTurnedSaid : Prop := cartTurnedRow.holds Tryd.pinned (OpenSpec.ofChange cartTurnedSpec)

/-- ITS FALSE NEIGHBOUR: 'it returns false'. Refute it at one input. -/
def cartTurnedWrong : ChangeSpec := { name := "cartTurned", fn := fun _ => fun
  | [d1, d2, d3, d4] => { results := [.lit (.bool false)], args := [d1, d2, d3, d4] }
  | _ => none }
def CartTurnedWrongFalsely : Prop := cartTurnedRow.holds Tryd.pinned (OpenSpec.ofChange cartTurnedWrong)

/-- 'wisplaw07.CartTables': WHATEVER THE INPUT: true; the input reads as it did. -/
def cartTablesSpec : ChangeSpec := { name := "cartTables", fn := fun _ => fun
  | [d1, d2, d3, d4] => { results := [.lit (.bool true)], args := [d1, d2, d3, d4] }
  | _ => none }
def cartTablesRow : OpenClaim := { program := "ytembdahclmffjaadoor", sum := "4d4251421567541415b9b9f00a4e331667bd5a6a7a44f193542b62a1cba02730", func := "wisp/wisplaw07.CartTables", spec := "cartTables", unfollowed := true, recurses := true, named := ["wisp/pack.table"], apart := false, laid := [("wisp/pack.table", laid_wisp_pack_table)] }
def CartTablesSaid : Prop := cartTablesRow.holds Tryd.pinned (OpenSpec.ofChange cartTablesSpec)

/-- ITS FALSE NEIGHBOUR: 'it returns false'. Refute it at one input. -/
def cartTablesWrong : ChangeSpec := { name := "cartTables", fn := fun _ => fun
  | [d1, d2, d3, d4] => { results := [.lit (.bool false)], args := [d1, d2, d3, d4] }
  | _ => none }
def CartTablesWrongFalsely : Prop := cartTablesRow.holds Tryd.pinned (OpenSpec.ofChange cartTablesWrong)

/-- 'wisplaw07.CartEncodes': WHATEVER THE INPUT: true; the input reads as it did. -/
def cartEncodesSpec : ChangeSpec := { name := "cartEncodes", fn := fun _ => fun
  | [d] => { results := [.lit (.bool true)], args := [d] }
  | _ => none }
def cartEncodesRow : OpenClaim := { program := "ytembdahclmffjaadoor", sum := "4d4251421567541415b9b9f00a4e331667bd5a6a7a44f193542b62a1cba02730", func := "wisp/wisplaw07.CartEncodes", spec := "cartEncodes", unfollowed := true, recurses := true, named := ["wisp/pack.table"], apart := false, laid := [("wisp/pack.table", laid_wisp_pack_table)] }
def CartEncodesSaid : Prop := cartEncodesRow.holds Tryd.pinned (OpenSpec.ofChange cartEncodesSpec)

/-- ITS FALSE NEIGHBOUR: 'it returns false'. Refute it at one input. -/
def cartEncodesWrong : ChangeSpec := { name := "cartEncodes", fn := fun _ => fun
  | [d] => { results := [.lit (.bool false)], args := [d] }
  | _ => none }
def CartEncodesWrongFalsely : Prop := cartEncodesRow.holds Tryd.pinned (OpenSpec.ofChange cartEncodesWrong)

/- THE SECOND FORM. 'bulk': how many values and letters a reading holds, each counted each time it is reached (what is shared counts as often as it is met; a slice's spare places count too). A statement '..UptoSaid' is the law's where the arguments, and the package variables that the reading takes, are together of bulk at most 1048576: NARROWER than '..Said'. Prove '..Said' where nothing that the law and all that it calls make is longer than what came in: it says more and counts as full. Else prove '..UptoSaid'. A law counts once. -/
mutual
def uptoBulk {H : Type} : DataW H → Nat
  | .lit (.string bytes) => bytes.length + 1
  | .lit _ => 1
  | .nil => 1
  | .ptr d => uptoBulk d + 1
  | .slice elems spare => uptoBulkAll elems + uptoBulkAll spare + 1
  | .agg parts => uptoBulkAll parts + 1
  | .iface _ d => uptoBulk d + 1
  | .map entries => uptoBulkEntries entries + 1
  | .held _ => 1
def uptoBulkAll {H : Type} : List (DataW H) → Nat
  | [] => 0
  | d :: r => uptoBulk d + uptoBulkAll r
def uptoBulkEntries {H : Type} : List (Lit × DataW H) → Nat
  | [] => 0
  | x :: r => uptoBulkEntry x + uptoBulkEntries r
def uptoBulkEntry {H : Type} : Lit × DataW H → Nat
  | (.string bytes, d) => bytes.length + uptoBulk d + 1
  | (_, d) => uptoBulk d + 1
 end
def uptoSmall : (H : Type) → List (DataW H) → Bool := fun _ ds => decide (uptoBulkAll ds ≤ 1048576)
def OpenSpec.upto (s : _root_.Go.ChangeSpec) : _root_.Go.OpenSpec := { _root_.Go.OpenSpec.ofChange s with cond := some uptoSmall }

/-- 'wisplaw07.CartDecodes', WHERE WHAT IT READS IS OF BULK AT MOST 1048576: true; the input reads as it did. -/
def cartDecodesUptoRow : OpenClaim := { program := "ytembdahclmffjaadoor", sum := "4d4251421567541415b9b9f00a4e331667bd5a6a7a44f193542b62a1cba02730", func := "wisp/wisplaw07.CartDecodes", spec := "cartDecodes", unfollowed := true, recurses := true, named := ["wisp/pack.table"], apart := false, laid := [("wisp/pack.table", laid_wisp_pack_table)], narrowed := true }
def CartDecodesUptoSaid : Prop := cartDecodesUptoRow.holds Tryd.pinned (OpenSpec.upto cartDecodesSpec)

/-- 'wisplaw07.CartRound', WHERE WHAT IT READS IS OF BULK AT MOST 1048576: true; the input reads as it did. -/
def cartRoundUptoRow : OpenClaim := { program := "ytembdahclmffjaadoor", sum := "4d4251421567541415b9b9f00a4e331667bd5a6a7a44f193542b62a1cba02730", func := "wisp/wisplaw07.CartRound", spec := "cartRound", unfollowed := true, recurses := true, named := ["wisp/pack.table"], apart := false, laid := [("wisp/pack.table", laid_wisp_pack_table)], narrowed := true }
def CartRoundUptoSaid : Prop := cartRoundUptoRow.holds Tryd.pinned (OpenSpec.upto cartRoundSpec)

/-- 'wisplaw07.CartTurned', WHERE WHAT IT READS IS OF BULK AT MOST 1048576: true; the input reads as it did. -/
def cartTurnedUptoRow : OpenClaim := { program := "ytembdahclmffjaadoor", sum := "4d4251421567541415b9b9f00a4e331667bd5a6a7a44f193542b62a1cba02730", func := "wisp/wisplaw07.CartTurned", spec := "cartTurned", unfollowed := true, recurses := true, named := ["wisp/pack.table"], apart := false, laid := [("wisp/pack.table", laid_wisp_pack_table)], narrowed := true }
def CartTurnedUptoSaid : Prop := cartTurnedUptoRow.holds Tryd.pinned (OpenSpec.upto cartTurnedSpec)

/-- 'wisplaw07.CartTables', WHERE WHAT IT READS IS OF BULK AT MOST 1048576: true; the input reads as it did. -/
def cartTablesUptoRow : OpenClaim := { program := "ytembdahclmffjaadoor", sum := "4d4251421567541415b9b9f00a4e331667bd5a6a7a44f193542b62a1cba02730", func := "wisp/wisplaw07.CartTables", spec := "cartTables", unfollowed := true, recurses := true, named := ["wisp/pack.table"], apart := false, laid := [("wisp/pack.table", laid_wisp_pack_table)], narrowed := true }
def CartTablesUptoSaid : Prop := cartTablesUptoRow.holds Tryd.pinned (OpenSpec.upto cartTablesSpec)

/-- 'wisplaw07.CartEncodes', WHERE WHAT IT READS IS OF BULK AT MOST 1048576: true; the input reads as it did. -/
def cartEncodesUptoRow : OpenClaim := { program := "ytembdahclmffjaadoor", sum := "4d4251421567541415b9b9f00a4e331667bd5a6a7a44f193542b62a1cba02730", func := "wisp/wisplaw07.CartEncodes", spec := "cartEncodes", unfollowed := true, recurses := true, named := ["wisp/pack.table"], apart := false, laid := [("wisp/pack.table", laid_wisp_pack_table)], narrowed := true }
def CartEncodesUptoSaid : Prop := cartEncodesUptoRow.holds Tryd.pinned (OpenSpec.upto cartEncodesSpec)

end Rows
end Go.Proofs.YtembdahclmffjaaDoor
