/- The orders of evaluation that the translation leaves open. -/
import Derived.Test.YtmidgfmopmpppaaProg
import Derived.Test.YtmidgfmopmpppaaWAbsL
namespace Go.Proofs.Ytmidgfmopmpppaa
set_option maxRecDepth 100000
theorem mixed : Try.prog.follows .mixedOrders = true := by kernel_rfl
end Go.Proofs.Ytmidgfmopmpppaa
