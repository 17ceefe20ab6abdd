/-
  NARROWER THAN 'FOR EVERY INPUT', by the rows' own cells (each row's printed sentence says how): PackSums: laid · PackTurned: laid · PackWrites: laid · PackReads: laid · PackBack: laid.
  DERIVED. THE GIVEN ROWS OF THIS SEAT. 5 by the template 'for every input the law returns true; each argument reads behind the call as it read before'; 0 by the template 'total and deterministic' (their statements: YtgnjlgfnpfjjnaaDoorTotals.lean).
  GIVEN WITH THE SEED: the statements are not yours to turn. If you find one false, say at which input.
  Laid BY PROGRAM, IN A SANDBOX (cutbox-rows.mjs): the forced cells as the released guide's own fill.sh prints them over the translation 87f5dca0e2dcd12c… (all of the seat's roots in one cut). By AI agents, Wed Nov 11 2026. No macro, syntax, notation, axiom, sorry.
-/
import Derived.Test.YtgnjlgfnpfjjnaaDoorChecked
import GoSem.Claim
import GoSem.ClaimJoined
import GoSem.ClaimMapViews
import Derived.JoinedTies
import Derived.KernelRfl
namespace Go.Proofs.YtgnjlgfnpfjjnaaDoor
/- THE CELL 'sum', in the pinned program and in every row, IS THE sha256 OF THE DUMP (.gsa) THAT YtgnjlgfnpfjjnaaDoorProg.lean LOADS. Nothing in Lean hashes anything: it is a label: what it is worth is what the hold of that sum in a sandbox is worth. -/
noncomputable def Tryd.pinned : Pinned := { name := "ytgnjlgfnpfjjnaadoor", sum := "87f5dca0e2dcd12ce6448324e5287763138c1a9354156f5f2dad63830a7c9e02", checked := Tryd.checked }
namespace Rows
def none {H : Type} : Left H := { results := [], args := [] }

/- WHAT THE LISTED PACKAGE-LEVEL VARIABLES READ AS WHEN THE CALL BEGINS. Each datum BY PROGRAM (the guide's laid-datum.mjs) off the statement by which the dump's own 'gosem.cut.vars' lays the variable. In a bare row this is a premise. The card (YtgnjlgfnpfjjnaaDoorCards.lean) ties it to the program's text. -/
def laid_wisp_pack_table {H : Type} : DataW H := .agg [.lit (.int .u32 0), .lit (.int .u32 498536548), .lit (.int .u32 997073096), .lit (.int .u32 651767980), .lit (.int .u32 1994146192), .lit (.int .u32 1802195444), .lit (.int .u32 1303535960), .lit (.int .u32 1342533948), .lit (.int .u32 3988292384), .lit (.int .u32 4027552580), .lit (.int .u32 3604390888), .lit (.int .u32 3412177804), .lit (.int .u32 2607071920), .lit (.int .u32 2262029012), .lit (.int .u32 2685067896), .lit (.int .u32 3183342108)]

/-- 'wisplaw03.PackSums': WHATEVER THE INPUT: true; the input reads as it did. -/
def packSumsSpec : ChangeSpec := { name := "packSums", fn := fun _ => fun
  | [d] => { results := [.lit (.bool true)], args := [d] }
  | _ => none }
def packSumsRow : OpenClaim := { program := "ytgnjlgfnpfjjnaadoor", sum := "87f5dca0e2dcd12ce6448324e5287763138c1a9354156f5f2dad63830a7c9e02", func := "wisp/wisplaw03.PackSums", spec := "packSums", named := ["wisp/pack.table"], apart := false, laid := [("wisp/pack.table", laid_wisp_pack_table)] }
def PackSumsSaid : Prop := packSumsRow.holds Tryd.pinned (OpenSpec.ofChange packSumsSpec)

/-- ITS FALSE NEIGHBOUR: 'it returns false'. Refute it at one input. -/
def packSumsWrong : ChangeSpec := { name := "packSums", fn := fun _ => fun
  | [d] => { results := [.lit (.bool false)], args := [d] }
  | _ => none }
def PackSumsWrongFalsely : Prop := packSumsRow.holds Tryd.pinned (OpenSpec.ofChange packSumsWrong)

/-- 'wisplaw03.PackTurned': WHATEVER THE INPUT: true; the input reads as it did. -/
def packTurnedSpec : ChangeSpec := { name := "packTurned", fn := fun _ => fun
  | [d1, d2, d3] => { results := [.lit (.bool true)], args := [d1, d2, d3] }
  | _ => none }
def packTurnedRow : OpenClaim := { program := "ytgnjlgfnpfjjnaadoor", sum := "87f5dca0e2dcd12ce6448324e5287763138c1a9354156f5f2dad63830a7c9e02", func := "wisp/wisplaw03.PackTurned", spec := "packTurned", named := ["wisp/pack.table"], apart := false, laid := [("wisp/pack.table", laid_wisp_pack_table)] }
def PackTurnedSaid : Prop := packTurnedRow.holds Tryd.pinned (OpenSpec.ofChange packTurnedSpec)

/-- ITS FALSE NEIGHBOUR: 'it returns false'. Refute it at one input. -/
def packTurnedWrong : ChangeSpec := { name := "packTurned", fn := fun _ => fun
  | [d1, d2, d3] => { results := [.lit (.bool false)], args := [d1, d2, d3] }
  | _ => none }
def PackTurnedWrongFalsely : Prop := packTurnedRow.holds Tryd.pinned (OpenSpec.ofChange packTurnedWrong)

/-- 'wisplaw03.PackWrites': WHATEVER THE INPUT: true; the input reads as it did. -/
def packWritesSpec : ChangeSpec := { name := "packWrites", fn := fun _ => fun
  | [d] => { results := [.lit (.bool true)], args := [d] }
  | _ => none }
def packWritesRow : OpenClaim := { program := "ytgnjlgfnpfjjnaadoor", sum := "87f5dca0e2dcd12ce6448324e5287763138c1a9354156f5f2dad63830a7c9e02", func := "wisp/wisplaw03.PackWrites", spec := "packWrites", named := ["wisp/pack.table"], apart := false, laid := [("wisp/pack.table", laid_wisp_pack_table)] }
def PackWritesSaid : Prop := packWritesRow.holds Tryd.pinned (OpenSpec.ofChange packWritesSpec)

/-- ITS FALSE NEIGHBOUR: 'it returns false'. Refute it at one input. -/
def packWritesWrong : ChangeSpec := { name := "packWrites", fn := fun _ => fun
  | [d] => { results := [.lit (.bool false)], args := [d] }
  | _ => none }
def PackWritesWrongFalsely : Prop := packWritesRow.holds Tryd.pinned (OpenSpec.ofChange packWritesWrong)

/-- 'wisplaw03.PackReads': WHATEVER THE INPUT: true; the input reads as it did. -/
def packReadsSpec : ChangeSpec := { name := "packReads", fn := fun _ => fun
  | [d1, d2] => { results := [.lit (.bool true)], args := [d1, d2] }
  | _ => none }
def packReadsRow : OpenClaim := { program := "ytgnjlgfnpfjjnaadoor", sum := "87f5dca0e2dcd12ce6448324e5287763138c1a9354156f5f2dad63830a7c9e02", func := "wisp/wisplaw03.PackReads", spec := "packReads", named := ["wisp/pack.table"], apart := false, laid := [("wisp/pack.table", laid_wisp_pack_table)] }
def PackReadsSaid : Prop := packReadsRow.holds Tryd.pinned (OpenSpec.ofChange packReadsSpec)

/-- ITS FALSE NEIGHBOUR: 'it returns false'. Refute it at one input. -/
def packReadsWrong : ChangeSpec := { name := "packReads", fn := fun _ => fun
  | [d1, d2] => { results := [.lit (.bool false)], args := [d1, d2] }
  | _ => none }
def PackReadsWrongFalsely : Prop := packReadsRow.holds Tryd.pinned (OpenSpec.ofChange packReadsWrong)

/-- 'wisplaw03.PackBack': WHATEVER THE INPUT: true; the input reads as it did. -/
def packBackSpec : ChangeSpec := { name := "packBack", fn := fun _ => fun
  | [d1, d2, d3] => { results := [.lit (.bool true)], args := [d1, d2, d3] }
  | _ => none }
def packBackRow : OpenClaim := { program := "ytgnjlgfnpfjjnaadoor", sum := "87f5dca0e2dcd12ce6448324e5287763138c1a9354156f5f2dad63830a7c9e02", func := "wisp/wisplaw03.PackBack", spec := "packBack", named := ["wisp/pack.table"], apart := false, laid := [("wisp/pack.table", laid_wisp_pack_table)] }
def PackBackSaid : Prop := packBackRow.holds Tryd.pinned (OpenSpec.ofChange packBackSpec)

/-- ITS FALSE NEIGHBOUR: 'it returns false'. Refute it at one input. -/
def packBackWrong : ChangeSpec := { name := "packBack", fn := fun _ => fun
  | [d1, d2, d3] => { results := [.lit (.bool false)], args := [d1, d2, d3] }
  | _ => none }
def PackBackWrongFalsely : Prop := packBackRow.holds Tryd.pinned (OpenSpec.ofChange packBackWrong)

/- THE SECOND FORM. 'bulk': how many values and letters a reading holds, each counted each time it is reached (what is shared counts as often as it is met; a slice's spare places count too). A statement '..UptoSaid' is the law's where the arguments, and the package variables that the reading takes, are together of bulk at most 1048576: NARROWER than '..Said'. Prove '..Said' where nothing that the law and all that it calls make is longer than what came in: it says more and counts as full. Else prove '..UptoSaid'. A law counts once. -/
mutual
def uptoBulk {H : Type} : DataW H → Nat
  | .lit (.string bytes) => bytes.length + 1
  | .lit _ => 1
  | .nil => 1
  | .ptr d => uptoBulk d + 1
  | .slice elems spare => uptoBulkAll elems + uptoBulkAll spare + 1
  | .agg parts => uptoBulkAll parts + 1
  | .iface _ d => uptoBulk d + 1
  | .map entries => uptoBulkEntries entries + 1
  | .held _ => 1
def uptoBulkAll {H : Type} : List (DataW H) → Nat
  | [] => 0
  | d :: r => uptoBulk d + uptoBulkAll r
def uptoBulkEntries {H : Type} : List (Lit × DataW H) → Nat
  | [] => 0
  | x :: r => uptoBulkEntry x + uptoBulkEntries r
def uptoBulkEntry {H : Type} : Lit × DataW H → Nat
  | (.string bytes, d) => bytes.length + uptoBulk d + 1
  | (_, d) => uptoBulk d + 1
 end
def uptoSmall : (H : Type) → List (DataW H) → Bool := fun _ ds => decide (uptoBulkAll ds ≤ 1048576)
def OpenSpec.upto (s : _root_.Go.ChangeSpec) : _root_.Go.OpenSpec := { _root_.Go.OpenSpec.ofChange s with cond := some uptoSmall }

/-- 'wisplaw03.PackSums', WHERE WHAT IT READS IS OF BULK AT MOST 1048576: true; the input reads as it did. -/
def packSumsUptoRow : OpenClaim := { program := "ytgnjlgfnpfjjnaadoor", sum := "87f5dca0e2dcd12ce6448324e5287763138c1a9354156f5f2dad63830a7c9e02", func := "wisp/wisplaw03.PackSums", spec := "packSums", named := ["wisp/pack.table"], apart := false, laid := [("wisp/pack.table", laid_wisp_pack_table)], narrowed := true }
def PackSumsUptoSaid : Prop := packSumsUptoRow.holds Tryd.pinned (OpenSpec.upto packSumsSpec)

/-- 'wisplaw03.PackTurned', WHERE WHAT IT READS IS OF BULK AT MOST 1048576: true; the input reads as it did. -/
def packTurnedUptoRow : OpenClaim := { program := "ytgnjlgfnpfjjnaadoor", sum := "87f5dca0e2dcd12ce6448324e5287763138c1a9354156f5f2dad63830a7c9e02", func := "wisp/wisplaw03.PackTurned", spec := "packTurned", named := ["wisp/pack.table"], apart := false, laid := [("wisp/pack.table", laid_wisp_pack_table)], narrowed := true }
def PackTurnedUptoSaid : Prop := packTurnedUptoRow.holds Tryd.pinned (OpenSpec.upto packTurnedSpec)

/-- 'wisplaw03.PackWrites', WHERE WHAT IT READS IS OF BULK AT MOST 1048576: true; the input reads as it did. -/
def packWritesUptoRow : OpenClaim := { program := "ytgnjlgfnpfjjnaadoor", sum := "87f5dca0e2dcd12ce6448324e5287763138c1a9354156f5f2dad63830a7c9e02", func := "wisp/wisplaw03.PackWrites", spec := "packWrites", named := ["wisp/pack.table"], apart := false, laid := [("wisp/pack.table", laid_wisp_pack_table)], narrowed := true }
def PackWritesUptoSaid : Prop := packWritesUptoRow.holds Tryd.pinned (OpenSpec.upto packWritesSpec)

/-- 'wisplaw03.PackReads', WHERE WHAT IT READS IS OF BULK AT MOST 1048576: true; the input reads as it did. -/
def packReadsUptoRow : OpenClaim := { program := "ytgnjlgfnpfjjnaadoor", sum := "87f5dca0e2dcd12ce6448324e5287763138c1a9354156f5f2dad63830a7c9e02", func := "wisp/wisplaw03.PackReads", spec := "packReads", named := ["wisp/pack.table"], apart := false, laid := [("wisp/pack.table", laid_wisp_pack_table)], narrowed := true }
def PackReadsUptoSaid : Prop := packReadsUptoRow.holds Tryd.pinned (OpenSpec.upto packReadsSpec)

/-- 'wisplaw03.PackBack', WHERE WHAT IT READS IS OF BULK AT MOST 1048576: true; the input reads as it did. -/
def packBackUptoRow : OpenClaim := { program := "ytgnjlgfnpfjjnaadoor", sum := "87f5dca0e2dcd12ce6448324e5287763138c1a9354156f5f2dad63830a7c9e02", func := "wisp/wisplaw03.PackBack", spec := "packBack", named := ["wisp/pack.table"], apart := false, laid := [("wisp/pack.table", laid_wisp_pack_table)], narrowed := true }
def PackBackUptoSaid : Prop := packBackUptoRow.holds Tryd.pinned (OpenSpec.upto packBackSpec)

end Rows
end Go.Proofs.YtgnjlgfnpfjjnaaDoor
