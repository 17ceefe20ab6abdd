/-
  NARROWER THAN 'FOR EVERY INPUT', by the rows' own cells (each row's printed sentence says how): LayoutPlaces: loops · LayoutFollows: loops · LayoutSizes: loops.
  DERIVED. THE GIVEN ROWS OF THIS SEAT. 10 by the template 'for every input the law returns true; each argument reads behind the call as it read before'; 0 by the template 'total and deterministic' (their statements: YtjphhnhloeanlaaTotals.lean).
  GIVEN WITH THE SEED: the statements are not yours to turn. If you find one false, say at which input.
  Laid BY PROGRAM, IN A SANDBOX (cutbox-rows.mjs): the forced cells as the released guide's own fill.sh prints them over the translation d7a6b57b1f19cc8d… (all of the seat's roots in one cut). By AI agents, Wed Nov 11 2026. No macro, syntax, notation, axiom, sorry.
-/
import Derived.Test.YtjphhnhloeanlaaChecked
import GoSem.Claim
import GoSem.ClaimJoined
import GoSem.ClaimMapViews
import Derived.JoinedTies
import Derived.KernelRfl
namespace Go.Proofs.Ytjphhnhloeanlaa
/- THE CELL 'sum', in the pinned program and in every row, IS THE sha256 OF THE DUMP (.gsa) THAT YtjphhnhloeanlaaProg.lean LOADS. Nothing in Lean hashes anything: it is a label: what it is worth is what the hold of that sum in a sandbox is worth. -/
noncomputable def Try.pinned : Pinned := { name := "ytjphhnhloeanlaa", sum := "d7a6b57b1f19cc8dac23b6966101943b0d1f89859ae1612abd562c9f7d13bccb", checked := Try.checked }
namespace Rows
def none {H : Type} : Left H := { results := [], args := [] }

/-- 'wisplaw12.LayoutNames': WHATEVER THE INPUT: true; the input reads as it did. -/
def layoutNamesSpec : ChangeSpec := { name := "layoutNames", fn := fun _ => fun
  | [] => { results := [.lit (.bool true)], args := [] }
  | _ => none }
def layoutNamesRow : OpenClaim := { program := "ytjphhnhloeanlaa", sum := "d7a6b57b1f19cc8dac23b6966101943b0d1f89859ae1612abd562c9f7d13bccb", func := "wisp/wisplaw12.LayoutNames", spec := "layoutNames", unfollowed := true, recurses := true, apart := false }
def LayoutNamesSaid : Prop := layoutNamesRow.holds Try.pinned (OpenSpec.ofChange layoutNamesSpec)

/-- ITS FALSE NEIGHBOUR: 'it returns false'. Refute it at one input. -/
def layoutNamesWrong : ChangeSpec := { name := "layoutNames", fn := fun _ => fun
  | [] => { results := [.lit (.bool false)], args := [] }
  | _ => none }
def LayoutNamesWrongFalsely : Prop := layoutNamesRow.holds Try.pinned (OpenSpec.ofChange layoutNamesWrong)

/-- 'wisplaw12.LayoutPlaces': WHATEVER THE INPUT: true; the input reads as it did. -/
def layoutPlacesSpec : ChangeSpec := { name := "layoutPlaces", fn := fun _ => fun
  | [d] => { results := [.lit (.bool true)], args := [d] }
  | _ => none }
def layoutPlacesRow : OpenClaim := { program := "ytjphhnhloeanlaa", sum := "d7a6b57b1f19cc8dac23b6966101943b0d1f89859ae1612abd562c9f7d13bccb", func := "wisp/wisplaw12.LayoutPlaces", spec := "layoutPlaces", unfollowed := true, recurses := true, loops := true, apart := false }
def LayoutPlacesSaid : Prop := layoutPlacesRow.holds Try.pinned (OpenSpec.ofChange layoutPlacesSpec)

/-- ITS FALSE NEIGHBOUR: 'it returns false'. Refute it at one input. -/
def layoutPlacesWrong : ChangeSpec := { name := "layoutPlaces", fn := fun _ => fun
  | [d] => { results := [.lit (.bool false)], args := [d] }
  | _ => none }
def LayoutPlacesWrongFalsely : Prop := layoutPlacesRow.holds Try.pinned (OpenSpec.ofChange layoutPlacesWrong)

/-- 'wisplaw12.LayoutFollows': WHATEVER THE INPUT: true; the input reads as it did. -/
def layoutFollowsSpec : ChangeSpec := { name := "layoutFollows", fn := fun _ => fun
  | [d1, d2] => { results := [.lit (.bool true)], args := [d1, d2] }
  | _ => none }
def layoutFollowsRow : OpenClaim := { program := "ytjphhnhloeanlaa", sum := "d7a6b57b1f19cc8dac23b6966101943b0d1f89859ae1612abd562c9f7d13bccb", func := "wisp/wisplaw12.LayoutFollows", spec := "layoutFollows", unfollowed := true, recurses := true, loops := true, apart := false }
def LayoutFollowsSaid : Prop := layoutFollowsRow.holds Try.pinned (OpenSpec.ofChange layoutFollowsSpec)

/-- ITS FALSE NEIGHBOUR: 'it returns false'. Refute it at one input. -/
def layoutFollowsWrong : ChangeSpec := { name := "layoutFollows", fn := fun _ => fun
  | [d1, d2] => { results := [.lit (.bool false)], args := [d1, d2] }
  | _ => none }
def LayoutFollowsWrongFalsely : Prop := layoutFollowsRow.holds Try.pinned (OpenSpec.ofChange layoutFollowsWrong)

/-- 'wisplaw12.LayoutSizes': WHATEVER THE INPUT: true; the input reads as it did. -/
def layoutSizesSpec : ChangeSpec := { name := "layoutSizes", fn := fun _ => fun
  | [d1, d2] => { results := [.lit (.bool true)], args := [d1, d2] }
  | _ => none }
def layoutSizesRow : OpenClaim := { program := "ytjphhnhloeanlaa", sum := "d7a6b57b1f19cc8dac23b6966101943b0d1f89859ae1612abd562c9f7d13bccb", func := "wisp/wisplaw12.LayoutSizes", spec := "layoutSizes", unfollowed := true, recurses := true, loops := true, apart := false }
def LayoutSizesSaid : Prop := layoutSizesRow.holds Try.pinned (OpenSpec.ofChange layoutSizesSpec)

/-- ITS FALSE NEIGHBOUR: 'it returns false'. Refute it at one input. -/
def layoutSizesWrong : ChangeSpec := { name := "layoutSizes", fn := fun _ => fun
  | [d1, d2] => { results := [.lit (.bool false)], args := [d1, d2] }
  | _ => none }
def LayoutSizesWrongFalsely : Prop := layoutSizesRow.holds Try.pinned (OpenSpec.ofChange layoutSizesWrong)

/-- 'wisplaw02.TextNames': WHATEVER THE INPUT: true; the input reads as it did. -/
def textNamesSpec : ChangeSpec := { name := "textNames", fn := fun _ => fun
  | [] => { results := [.lit (.bool true)], args := [] }
  | _ => none }
def textNamesRow : OpenClaim := { program := "ytjphhnhloeanlaa", sum := "d7a6b57b1f19cc8dac23b6966101943b0d1f89859ae1612abd562c9f7d13bccb", func := "wisp/wisplaw02.TextNames", spec := "textNames", apart := false }
def TextNamesSaid : Prop := textNamesRow.holds Try.pinned (OpenSpec.ofChange textNamesSpec)

/-- ITS FALSE NEIGHBOUR: 'it returns false'. Refute it at one input. -/
def textNamesWrong : ChangeSpec := { name := "textNames", fn := fun _ => fun
  | [] => { results := [.lit (.bool false)], args := [] }
  | _ => none }
def TextNamesWrongFalsely : Prop := textNamesRow.holds Try.pinned (OpenSpec.ofChange textNamesWrong)

/-- 'wisplaw02.TextNumerals': WHATEVER THE INPUT: true; the input reads as it did. -/
def textNumeralsSpec : ChangeSpec := { name := "textNumerals", fn := fun _ => fun
  | [d] => { results := [.lit (.bool true)], args := [d] }
  | _ => none }
def textNumeralsRow : OpenClaim := { program := "ytjphhnhloeanlaa", sum := "d7a6b57b1f19cc8dac23b6966101943b0d1f89859ae1612abd562c9f7d13bccb", func := "wisp/wisplaw02.TextNumerals", spec := "textNumerals", apart := false }
def TextNumeralsSaid : Prop := textNumeralsRow.holds Try.pinned (OpenSpec.ofChange textNumeralsSpec)

/-- ITS FALSE NEIGHBOUR: 'it returns false'. Refute it at one input. -/
def textNumeralsWrong : ChangeSpec := { name := "textNumerals", fn := fun _ => fun
  | [d] => { results := [.lit (.bool false)], args := [d] }
  | _ => none }
def TextNumeralsWrongFalsely : Prop := textNumeralsRow.holds Try.pinned (OpenSpec.ofChange textNumeralsWrong)

/-- 'wisplaw02.TextCells': WHATEVER THE INPUT: true; the input reads as it did. -/
def textCellsSpec : ChangeSpec := { name := "textCells", fn := fun _ => fun
  | [d1, d2] => { results := [.lit (.bool true)], args := [d1, d2] }
  | _ => none }
def textCellsRow : OpenClaim := { program := "ytjphhnhloeanlaa", sum := "d7a6b57b1f19cc8dac23b6966101943b0d1f89859ae1612abd562c9f7d13bccb", func := "wisp/wisplaw02.TextCells", spec := "textCells", apart := false }
def TextCellsSaid : Prop := textCellsRow.holds Try.pinned (OpenSpec.ofChange textCellsSpec)

/-- ITS FALSE NEIGHBOUR: 'it returns false'. Refute it at one input. -/
def textCellsWrong : ChangeSpec := { name := "textCells", fn := fun _ => fun
  | [d1, d2] => { results := [.lit (.bool false)], args := [d1, d2] }
  | _ => none }
def TextCellsWrongFalsely : Prop := textCellsRow.holds Try.pinned (OpenSpec.ofChange textCellsWrong)

/-- 'wisplaw02.TextPlaces': WHATEVER THE INPUT: true; the input reads as it did. -/
def textPlacesSpec : ChangeSpec := { name := "textPlaces", fn := fun _ => fun
  | [d1, d2] => { results := [.lit (.bool true)], args := [d1, d2] }
  | _ => none }
def textPlacesRow : OpenClaim := { program := "ytjphhnhloeanlaa", sum := "d7a6b57b1f19cc8dac23b6966101943b0d1f89859ae1612abd562c9f7d13bccb", func := "wisp/wisplaw02.TextPlaces", spec := "textPlaces", apart := false }
def TextPlacesSaid : Prop := textPlacesRow.holds Try.pinned (OpenSpec.ofChange textPlacesSpec)

/-- ITS FALSE NEIGHBOUR: 'it returns false'. Refute it at one input. -/
def textPlacesWrong : ChangeSpec := { name := "textPlaces", fn := fun _ => fun
  | [d1, d2] => { results := [.lit (.bool false)], args := [d1, d2] }
  | _ => none }
def TextPlacesWrongFalsely : Prop := textPlacesRow.holds Try.pinned (OpenSpec.ofChange textPlacesWrong)

/-- 'wisplaw02.TextRise': WHATEVER THE INPUT: true; the input reads as it did. -/
def textRiseSpec : ChangeSpec := { name := "textRise", fn := fun _ => fun
  | [d1, d2, d3] => { results := [.lit (.bool true)], args := [d1, d2, d3] }
  | _ => none }
def textRiseRow : OpenClaim := { program := "ytjphhnhloeanlaa", sum := "d7a6b57b1f19cc8dac23b6966101943b0d1f89859ae1612abd562c9f7d13bccb", func := "wisp/wisplaw02.TextRise", spec := "textRise", apart := false }
def TextRiseSaid : Prop := textRiseRow.holds Try.pinned (OpenSpec.ofChange textRiseSpec)

/-- ITS FALSE NEIGHBOUR: 'it returns false'. Refute it at one input. -/
def textRiseWrong : ChangeSpec := { name := "textRise", fn := fun _ => fun
  | [d1, d2, d3] => { results := [.lit (.bool false)], args := [d1, d2, d3] }
  | _ => none }
def TextRiseWrongFalsely : Prop := textRiseRow.holds Try.pinned (OpenSpec.ofChange textRiseWrong)

/-- 'wisplaw02.TextForms': WHATEVER THE INPUT: true; the input reads as it did. -/
def textFormsSpec : ChangeSpec := { name := "textForms", fn := fun _ => fun
  | [d1, d2] => { results := [.lit (.bool true)], args := [d1, d2] }
  | _ => none }
def textFormsRow : OpenClaim := { program := "ytjphhnhloeanlaa", sum := "d7a6b57b1f19cc8dac23b6966101943b0d1f89859ae1612abd562c9f7d13bccb", func := "wisp/wisplaw02.TextForms", spec := "textForms", apart := false }
def TextFormsSaid : Prop := textFormsRow.holds Try.pinned (OpenSpec.ofChange textFormsSpec)

/-- ITS FALSE NEIGHBOUR: 'it returns false'. Refute it at one input. -/
def textFormsWrong : ChangeSpec := { name := "textForms", fn := fun _ => fun
  | [d1, d2] => { results := [.lit (.bool false)], args := [d1, d2] }
  | _ => none }
def TextFormsWrongFalsely : Prop := textFormsRow.holds Try.pinned (OpenSpec.ofChange textFormsWrong)

/- THE SECOND FORM. 'bulk': how many values and letters a reading holds, each counted each time it is reached (what is shared counts as often as it is met; a slice's spare places count too). A statement '..UptoSaid' is the law's where the arguments, and the package variables that the reading takes, are together of bulk at most 1048576: NARROWER than '..Said'. Prove '..Said' where nothing that the law and all that it calls make is longer than what came in: it says more and counts as full. Else prove '..UptoSaid'. A law counts once. -/
mutual
def uptoBulk {H : Type} : DataW H → Nat
  | .lit (.string bytes) => bytes.length + 1
  | .lit _ => 1
  | .nil => 1
  | .ptr d => uptoBulk d + 1
  | .slice elems spare => uptoBulkAll elems + uptoBulkAll spare + 1
  | .agg parts => uptoBulkAll parts + 1
  | .iface _ d => uptoBulk d + 1
  | .map entries => uptoBulkEntries entries + 1
  | .held _ => 1
def uptoBulkAll {H : Type} : List (DataW H) → Nat
  | [] => 0
  | d :: r => uptoBulk d + uptoBulkAll r
def uptoBulkEntries {H : Type} : List (Lit × DataW H) → Nat
  | [] => 0
  | x :: r => uptoBulkEntry x + uptoBulkEntries r
def uptoBulkEntry {H : Type} : Lit × DataW H → Nat
  | (.string bytes, d) => bytes.length + uptoBulk d + 1
  | (_, d) => uptoBulk d + 1
 end
def uptoSmall : (H : Type) → List (DataW H) → Bool := fun _ ds => decide (uptoBulkAll ds ≤ 1048576)
def OpenSpec.upto (s : _root_.Go.ChangeSpec) : _root_.Go.OpenSpec := { _root_.Go.OpenSpec.ofChange s with cond := some uptoSmall }

/-- 'wisplaw12.LayoutNames', WHERE WHAT IT READS IS OF BULK AT MOST 1048576: true; the input reads as it did. -/
def layoutNamesUptoRow : OpenClaim := { program := "ytjphhnhloeanlaa", sum := "d7a6b57b1f19cc8dac23b6966101943b0d1f89859ae1612abd562c9f7d13bccb", func := "wisp/wisplaw12.LayoutNames", spec := "layoutNames", unfollowed := true, recurses := true, apart := false, narrowed := true }
def LayoutNamesUptoSaid : Prop := layoutNamesUptoRow.holds Try.pinned (OpenSpec.upto layoutNamesSpec)

/-- 'wisplaw12.LayoutPlaces', WHERE WHAT IT READS IS OF BULK AT MOST 1048576: true; the input reads as it did. -/
def layoutPlacesUptoRow : OpenClaim := { program := "ytjphhnhloeanlaa", sum := "d7a6b57b1f19cc8dac23b6966101943b0d1f89859ae1612abd562c9f7d13bccb", func := "wisp/wisplaw12.LayoutPlaces", spec := "layoutPlaces", unfollowed := true, recurses := true, loops := true, apart := false, narrowed := true }
def LayoutPlacesUptoSaid : Prop := layoutPlacesUptoRow.holds Try.pinned (OpenSpec.upto layoutPlacesSpec)

/-- 'wisplaw12.LayoutFollows', WHERE WHAT IT READS IS OF BULK AT MOST 1048576: true; the input reads as it did. -/
def layoutFollowsUptoRow : OpenClaim := { program := "ytjphhnhloeanlaa", sum := "d7a6b57b1f19cc8dac23b6966101943b0d1f89859ae1612abd562c9f7d13bccb", func := "wisp/wisplaw12.LayoutFollows", spec := "layoutFollows", unfollowed := true, recurses := true, loops := true, apart := false, narrowed := true }
def LayoutFollowsUptoSaid : Prop := layoutFollowsUptoRow.holds Try.pinned (OpenSpec.upto layoutFollowsSpec)

/-- 'wisplaw12.LayoutSizes', WHERE WHAT IT READS IS OF BULK AT MOST 1048576: true; the input reads as it did. -/
def layoutSizesUptoRow : OpenClaim := { program := "ytjphhnhloeanlaa", sum := "d7a6b57b1f19cc8dac23b6966101943b0d1f89859ae1612abd562c9f7d13bccb", func := "wisp/wisplaw12.LayoutSizes", spec := "layoutSizes", unfollowed := true, recurses := true, loops := true, apart := false, narrowed := true }
def LayoutSizesUptoSaid : Prop := layoutSizesUptoRow.holds Try.pinned (OpenSpec.upto layoutSizesSpec)

/-- 'wisplaw02.TextNames', WHERE WHAT IT READS IS OF BULK AT MOST 1048576: true; the input reads as it did. -/
def textNamesUptoRow : OpenClaim := { program := "ytjphhnhloeanlaa", sum := "d7a6b57b1f19cc8dac23b6966101943b0d1f89859ae1612abd562c9f7d13bccb", func := "wisp/wisplaw02.TextNames", spec := "textNames", apart := false, narrowed := true }
def TextNamesUptoSaid : Prop := textNamesUptoRow.holds Try.pinned (OpenSpec.upto textNamesSpec)

/-- 'wisplaw02.TextNumerals', WHERE WHAT IT READS IS OF BULK AT MOST 1048576: true; the input reads as it did. -/
def textNumeralsUptoRow : OpenClaim := { program := "ytjphhnhloeanlaa", sum := "d7a6b57b1f19cc8dac23b6966101943b0d1f89859ae1612abd562c9f7d13bccb", func := "wisp/wisplaw02.TextNumerals", spec := "textNumerals", apart := false, narrowed := true }
def TextNumeralsUptoSaid : Prop := textNumeralsUptoRow.holds Try.pinned (OpenSpec.upto textNumeralsSpec)

/-- 'wisplaw02.TextCells', WHERE WHAT IT READS IS OF BULK AT MOST 1048576: true; the input reads as it did. -/
def textCellsUptoRow : OpenClaim := { program := "ytjphhnhloeanlaa", sum := "d7a6b57b1f19cc8dac23b6966101943b0d1f89859ae1612abd562c9f7d13bccb", func := "wisp/wisplaw02.TextCells", spec := "textCells", apart := false, narrowed := true }
def TextCellsUptoSaid : Prop := textCellsUptoRow.holds Try.pinned (OpenSpec.upto textCellsSpec)

/-- 'wisplaw02.TextPlaces', WHERE WHAT IT READS IS OF BULK AT MOST 1048576: true; the input reads as it did. -/
def textPlacesUptoRow : OpenClaim := { program := "ytjphhnhloeanlaa", sum := "d7a6b57b1f19cc8dac23b6966101943b0d1f89859ae1612abd562c9f7d13bccb", func := "wisp/wisplaw02.TextPlaces", spec := "textPlaces", apart := false, narrowed := true }
def TextPlacesUptoSaid : Prop := textPlacesUptoRow.holds Try.pinned (OpenSpec.upto textPlacesSpec)

/-- 'wisplaw02.TextRise', WHERE WHAT IT READS IS OF BULK AT MOST 1048576: true; the input reads as it did. -/
def textRiseUptoRow : OpenClaim := { program := "ytjphhnhloeanlaa", sum := "d7a6b57b1f19cc8dac23b6966101943b0d1f89859ae1612abd562c9f7d13bccb", func := "wisp/wisplaw02.TextRise", spec := "textRise", apart := false, narrowed := true }
def TextRiseUptoSaid : Prop := textRiseUptoRow.holds Try.pinned (OpenSpec.upto textRiseSpec)

/-- 'wisplaw02.TextForms', WHERE WHAT IT READS IS OF BULK AT MOST 1048576: true; the input reads as it did. -/
def textFormsUptoRow : OpenClaim := { program := "ytjphhnhloeanlaa", sum := "d7a6b57b1f19cc8dac23b6966101943b0d1f89859ae1612abd562c9f7d13bccb", func := "wisp/wisplaw02.TextForms", spec := "textForms", apart := false, narrowed := true }
def TextFormsUptoSaid : Prop := textFormsUptoRow.holds Try.pinned (OpenSpec.upto textFormsSpec)

end Rows
end Go.Proofs.Ytjphhnhloeanlaa
