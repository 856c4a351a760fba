/- The orders of evaluation that the translation leaves open. -/
import Derived.Test.YtfghglacfjncmaaProg
import Derived.Test.YtfghglacfjncmaaWAbsL
namespace Go.Proofs.Ytfghglacfjncmaa
set_option maxRecDepth 100000
theorem mixed : Try.prog.follows .mixedOrders = true := by kernel_rfl
end Go.Proofs.Ytfghglacfjncmaa
