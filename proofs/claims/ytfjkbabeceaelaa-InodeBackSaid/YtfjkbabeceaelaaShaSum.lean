/- The size of a sum. -/
import Derived.Test.YtfjkbabeceaelaaKit
import Derived.Test.YtfjkbabeceaelaaProg
set_option linter.unusedVariables false
set_option linter.unusedSimpArgs false
namespace Go.Proofs.Ytfjkbabeceaelaa.ShaSum
open Go Go.RowKit Go.Proofs.Ytfjkbabeceaelaa.K
theorem info32a : (Try.prog.info? 24).map (·.size) = some 32 := by kernel_rfl

end Go.Proofs.Ytfjkbabeceaelaa.ShaSum
