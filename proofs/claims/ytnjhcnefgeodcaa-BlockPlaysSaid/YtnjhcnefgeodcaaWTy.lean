/- The orders of evaluation that the translation leaves open. -/
import Derived.Test.YtnjhcnefgeodcaaProg
import Derived.Test.YtnjhcnefgeodcaaWAbsL
namespace Go.Proofs.Ytnjhcnefgeodcaa
set_option maxRecDepth 100000
theorem mixed : Try.prog.follows .mixedOrders = true := by kernel_rfl
end Go.Proofs.Ytnjhcnefgeodcaa
