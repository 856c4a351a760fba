/- Contracts of the library as calls of the abstract memory. -/
import Derived.Test.YtfghglacfjncmaaWAbsN
import Derived.Lib.Join
namespace Go.Proofs.Ytfghglacfjncmaa
set_option linter.unusedVariables false
set_option linter.unusedSimpArgs false
open Go.RowKit
section
variable {P : Program} {B : Nat} {w0 : World} {μ : Mu} {H : AH} {w w' : World}

end
end Go.Proofs.Ytfghglacfjncmaa
