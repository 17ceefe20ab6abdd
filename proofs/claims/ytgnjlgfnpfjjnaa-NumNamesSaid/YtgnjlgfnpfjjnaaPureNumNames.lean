/- The statement NumNames over numbers alone: the worked examples. -/
import Derived.Test.YtgnjlgfnpfjjnaaPx2
namespace Go.Proofs.Ytgnjlgfnpfjjnaa.Pure
set_option linter.unusedSimpArgs false
set_option linter.unusedVariables false
open Go.RowKit Go.Proofs.Ytgnjlgfnpfjjnaa.P Go.Proofs.YtgnjlgfnpfjjnaaW.PrintWords Go.Proofs.YtgnjlgfnpfjjnaaW.PrintLast Go.Proofs.YtgnjlgfnpfjjnaaW.PrintMore

theorem NumNames : wisplaw01_NumNames.Pure := ⟨10, by decide +kernel⟩
end Go.Proofs.Ytgnjlgfnpfjjnaa.Pure
