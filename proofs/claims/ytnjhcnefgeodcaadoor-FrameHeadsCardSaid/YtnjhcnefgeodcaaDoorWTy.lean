/- The orders of evaluation that the translation leaves open. -/
import Derived.Test.YtnjhcnefgeodcaaDoorProg
import Derived.Test.YtnjhcnefgeodcaaDoorWAbsL
namespace Go.Proofs.YtnjhcnefgeodcaaDoor
set_option maxRecDepth 100000
theorem mixed : Tryd.prog.follows .mixedOrders = true := by kernel_rfl
end Go.Proofs.YtnjhcnefgeodcaaDoor
