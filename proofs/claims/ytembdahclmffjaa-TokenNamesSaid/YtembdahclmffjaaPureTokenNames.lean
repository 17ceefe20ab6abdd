/- The statement TokenNames over numbers and lists alone: closed: decided. -/
import Derived.Test.YtembdahclmffjaaTn
namespace Go.Proofs.Ytembdahclmffjaa.Pure
open Go.RowKit Go.Proofs.Ytembdahclmffjaa.P
set_option maxRecDepth 100000 in
theorem TokenNames : wisplaw09_TokenNames.Pure := ⟨300, by decide +kernel⟩
end Go.Proofs.Ytembdahclmffjaa.Pure
