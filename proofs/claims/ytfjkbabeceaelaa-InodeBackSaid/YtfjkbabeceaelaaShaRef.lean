/- Nothing (a name that the texts open). -/
import Derived.Test.YtfjkbabeceaelaaKit
set_option linter.unusedVariables false
set_option linter.unusedSimpArgs false
namespace Go.Proofs.Ytfjkbabeceaelaa.ShaRef
open Go Go.RowKit Go.Proofs.Ytfjkbabeceaelaa.K

end Go.Proofs.Ytfjkbabeceaelaa.ShaRef
