/- The statement TextNumerals over numbers and lists alone: of every text the program's numeral and name are the document's, and a numeral is no name. -/
import Derived.Test.YtjphhnhloeanlaaPx8
import Derived.Test.YtjphhnhloeanlaaMath1
namespace Go.Proofs.Ytjphhnhloeanlaa.Pure
set_option linter.unusedSimpArgs false
set_option linter.unusedVariables false
open Go.RowKit Go.Proofs.Ytjphhnhloeanlaa.P Go.Proofs.YtjphhnhloeanlaaW.PrintWords Go.Proofs.YtjphhnhloeanlaaW.PrintLast Go.Proofs.YtjphhnhloeanlaaW.PrintMore

theorem TextNumerals : wisplaw02_TextNumerals.Pure := by
  intro s hz
  have hz' : s.size ≤ 140737488351232 := hz
  obtain ⟨b, h1, h2, h3⟩ := name_same s hz (s.size + s.size + 34 + 60) (by omega)
  refine ⟨s.size + s.size + 34 + 60, ?_⟩
  unfold wisplaw02_TextNumerals.f
  rw [fixed_text, Numeral_eq s hz _ (by omega), RNumeral_eq s hz _ (by omega), h1, h2]
  simp only [Option.bind_some, if_true, beq_self_eq_true]
  cases b with
  | false => simp
  | true => simp [h3 rfl]
end Go.Proofs.Ytjphhnhloeanlaa.Pure
