/- Arguments that are slices: the cells that came in lie as objects that are only read. -/
import Derived.Test.YtfghglacfjncmaaWAbsR
import Derived.Deep.Slices
import Derived.Deep.Fields
import Derived.ChangeSame
namespace Go.Proofs.Ytfghglacfjncmaa
set_option linter.unusedVariables false
set_option linter.unusedSimpArgs false
open Go.RowKit Go.ChangeShapes Go.WideShapes Go.Deep

section
variable {H : Type} {enc : TypeId × Value → H} {P : Program} {w : World} {base : Nat} {held : Bool}
end
/-- Elements' cells in a row. -/
def cellsOf (k cap : Nat) (F : Nat → Nat → Value) : List Value := (List.range (cap * k)).map fun x => F (x / k) (x % k)
end Go.Proofs.Ytfghglacfjncmaa
