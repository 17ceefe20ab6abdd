/- Printed by a program of this session (it turns the kit's print): see wip/myprint. -/
import Derived.Test.YtgnjlgfnpfjjnaaProg
import Derived.Below
import Derived.Deep.Draws
import Derived.Deep.AppendLies
import Derived.Maps.AppendAt
import Derived.OwnWalk
import Derived.Laws.BytesArg
import Derived.Laws.MakeOwn
import Derived.Laws.OwnMore
import Derived.Deep.OwnRows
import Derived.Tactics
import Derived.Lib.ConvBytes
import Derived.Laws.Slices
import Derived.WalkKit
import Derived.KernelRfl
import Derived.RowKit3
import Derived.Deep.LoopGhost
import Derived.Deep.QuietTactic
import Derived.BigQuiet
import Derived.WideLaws
import Derived.Deep.DeepCutAuto
import Derived.Deep.CutBlock
import Derived.Deep.RegionHeld3
import Derived.Laws.Rows
import Derived.Lib.AppendStr
import Derived.ArgAppend
import Derived.Laws.IdiomCopy
import Derived.OrdersHeld
import Derived.Laws.BitsLemmas
import Derived.RowKit
import Derived.Test.YtgnjlgfnpfjjnaaMine
import Derived.Test.YtgnjlgfnpfjjnaaWWords
import Derived.Test.YtgnjlgfnpfjjnaaWLast
import Derived.Test.YtgnjlgfnpfjjnaaWTab
import Derived.Test.YtgnjlgfnpfjjnaaWFour
import Derived.Test.YtgnjlgfnpfjjnaaWQPut
import Derived.Test.YtgnjlgfnpfjjnaaWApart
import Derived.Test.YtgnjlgfnpfjjnaaWArr
import Derived.Test.YtgnjlgfnpfjjnaaWZeros
import Derived.Test.YtgnjlgfnpfjjnaaWFoot
import Derived.Test.YtgnjlgfnpfjjnaaWKept
import Derived.Test.YtgnjlgfnpfjjnaaWShare
import Derived.Test.YtgnjlgfnpfjjnaaWN
import Derived.Test.YtgnjlgfnpfjjnaaWFootNe
import Derived.Test.YtgnjlgfnpfjjnaaWAt
import Derived.Test.YtgnjlgfnpfjjnaaWEqStruct
import Derived.Test.YtgnjlgfnpfjjnaaWRepsOne
import Derived.Test.YtgnjlgfnpfjjnaaWInv
import Derived.Test.YtgnjlgfnpfjjnaaWInvWords
import Derived.Test.YtgnjlgfnpfjjnaaWGuard
import Derived.Test.YtgnjlgfnpfjjnaaWNEv
import Derived.Test.YtgnjlgfnpfjjnaaWMore
namespace Go.Proofs.Ytgnjlgfnpfjjnaa.P
open Go.RowKit Go.Proofs.YtgnjlgfnpfjjnaaW.PrintWords Go.Proofs.YtgnjlgfnpfjjnaaW.PrintLast Go.Proofs.YtgnjlgfnpfjjnaaW.PrintMore Go.Proofs.Ytgnjlgfnpfjjnaa.Mine
attribute [local go_sem] max2_int min2_int max_two min_two max_three min_three max_four min_four   -- for this text's walks alone
set_option linter.unusedVariables false
set_option linter.unusedSimpArgs false



def errW : Option Int → Value
  | none => .nilIface
  | some c => .iface 0 (.int .i64 c)
theorem errW_none : errW none = .nilIface := rfl
theorem errW_some (c : Int) : errW (some c) = .iface 0 (.int .i64 c) := rfl

theorem info3 : (Try.prog.info? 3).map (fun i => (i.zero, i.size, i.bytes)) = some (some (.int .i64 0), 1, 8) := by kernel_rfl
-- the values' own types

end Go.Proofs.Ytgnjlgfnpfjjnaa.P
