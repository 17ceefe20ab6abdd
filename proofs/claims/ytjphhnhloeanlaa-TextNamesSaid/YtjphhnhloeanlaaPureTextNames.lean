/- The statement TextNames over numbers and lists alone: the worked examples. -/
import Derived.Test.YtjphhnhloeanlaaPx6
namespace Go.Proofs.Ytjphhnhloeanlaa.Pure
set_option linter.unusedSimpArgs false
set_option linter.unusedVariables false
open Go.RowKit Go.Proofs.Ytjphhnhloeanlaa.P Go.Proofs.YtjphhnhloeanlaaW.PrintWords Go.Proofs.YtjphhnhloeanlaaW.PrintLast Go.Proofs.YtjphhnhloeanlaaW.PrintMore

theorem TextNames : wisplaw02_TextNames.Pure := ⟨80, by decide +kernel⟩
end Go.Proofs.Ytjphhnhloeanlaa.Pure
